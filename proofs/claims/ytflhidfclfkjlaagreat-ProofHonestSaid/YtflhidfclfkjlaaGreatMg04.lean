/- ref03.Same: a contract, no statement of the seat. | ref03.SameList: a contract, no statement of the seat. | A slice of statements that the call owns, their lists too: words; ref03.Copy in plain cells. No statement of the seat. | ref09.Until, Window: contracts, no statement of the seat. | ref03.CopyList: a contract, no statement of the seat. | Slices of bytes, and appends of elements held by value in whatever region. For whatever program; no statement of the seat. | Dice.Of, Bytes, Digest of the made inputs: contracts, no statement of the seat. | ref05.Copy: a contract. No statement of the seat. | ref02.Int, Text, Ints: contracts, no statement of the seat. | Byte slices as values whose header nobody looks at: ref02's contracts once more. No statement of the seat. | SHA-256 as a function on lists of bytes and words. Plain, no program in sight. | ref01.turn, constants: contracts, no statement of the seat. | slices.Clone at numbers and at pins: contracts, no statement of the seat. | wire.put, Int, Text, Ints; slices.Clone at bytes: contracts, no statement of the seat. -/
import Derived.Test.YtflhidfclfkjlaaGreatSameAG
import Derived.Test.YtflhidfclfkjlaaGreatSameBG
import Derived.Test.YtflhidfclfkjlaaGreatSameCG
import Derived.Test.YtflhidfclfkjlaaGreatSameDG
import Derived.Test.YtflhidfclfkjlaaGreatMg00
import Derived.Maps.AppendAt
import Derived.Lib.AppendStr
import Derived.Laws.BytesArg
import Derived.Laws.BitsLemmas
import Derived.Deep.Cut
import Derived.Outline
import Derived.Laws.BitsAllLaws
import Derived.WalkSpells
namespace Go.Proofs.YtflhidfclfkjlaaGreat
open Go.RowKit Go.Sort
theorem sameS_no {s t:St} (h : ¬s=t):sameS s t=false:=by
 rw [Bool.eq_false_iff];intro h';exact h (sameS_iff.1 h')
theorem same_any {P Q:Nat→Prop} (x y:St×Sv×Sv) (w:World) (hx:Lies P w x) (hy:Lies Q w y) (hm:x.1.list.length≤9223372036854775807) (hm2:x.1.pins.length≤9223372036854775807) :
 Calls Tryz.prog 110 #[.agg (stE x).toArray,.agg (stE y).toArray] w fun e w'=>e=.returned (.bool (sameS x.1 y.1))∧Ex w.heap.size none w w':=by
 obtain⟨s,⟨lo,ln,lc⟩,⟨po,pn,pc⟩⟩:=x
 obtain⟨t,⟨lo',ln',lc'⟩,⟨po',pn',pc'⟩⟩:=y
 by_cases hauthor:s.author=t.author
 case neg=>
  have:=same_ne_author s t lo lo' po po' ln lc ln' lc' pn pc pn' pc' w hx.1 hx.2 hy.1 hy.2 ⟨hm,hm2⟩ hauthor
  rw [sameS_no (by rintro rfl;exact hauthor rfl)]
  exact this
 by_cases hnumber:s.number=t.number
 case neg=>
  have:=same_ne_number s t lo lo' po po' ln lc ln' lc' pn pc pn' pc' w hx.1 hx.2 hy.1 hy.2 ⟨hm,hm2⟩ hauthor hnumber
  rw [sameS_no (by rintro rfl;exact hnumber rfl)]
  exact this
 by_cases hprev:s.prev=t.prev
 case neg=>
  have:=same_ne_prev s t lo lo' po po' ln lc ln' lc' pn pc pn' pc' w hx.1 hx.2 hy.1 hy.2 ⟨hm,hm2⟩ hauthor hnumber hprev
  rw [sameS_no (by rintro rfl;exact hprev rfl)]
  exact this
 by_cases htime:s.time=t.time
 case neg=>
  have:=same_ne_time s t lo lo' po po' ln lc ln' lc' pn pc pn' pc' w hx.1 hx.2 hy.1 hy.2 ⟨hm,hm2⟩ hauthor hnumber hprev htime
  rw [sameS_no (by rintro rfl;exact htime rfl)]
  exact this
 by_cases hkind:s.kind=t.kind
 case neg=>
  have:=same_ne_kind s t lo lo' po po' ln lc ln' lc' pn pc pn' pc' w hx.1 hx.2 hy.1 hy.2 ⟨hm,hm2⟩ hauthor hnumber hprev htime hkind
  rw [sameS_no (by rintro rfl;exact hkind rfl)]
  exact this
 by_cases ha:s.a=t.a
 case neg=>
  have:=same_ne_a s t lo lo' po po' ln lc ln' lc' pn pc pn' pc' w hx.1 hx.2 hy.1 hy.2 ⟨hm,hm2⟩ hauthor hnumber hprev htime hkind ha
  rw [sameS_no (by rintro rfl;exact ha rfl)]
  exact this
 by_cases hb:s.b=t.b
 case neg=>
  have:=same_ne_b s t lo lo' po po' ln lc ln' lc' pn pc pn' pc' w hx.1 hx.2 hy.1 hy.2 ⟨hm,hm2⟩ hauthor hnumber hprev htime hkind ha hb
  rw [sameS_no (by rintro rfl;exact hb rfl)]
  exact this
 by_cases hc:s.c=t.c
 case neg=>
  have:=same_ne_c s t lo lo' po po' ln lc ln' lc' pn pc pn' pc' w hx.1 hx.2 hy.1 hy.2 ⟨hm,hm2⟩ hauthor hnumber hprev htime hkind ha hb hc
  rw [sameS_no (by rintro rfl;exact hc rfl)]
  exact this
 by_cases hlist:s.list=t.list
 case neg=>
  have:=same_ne_list s t lo lo' po po' ln lc ln' lc' pn pc pn' pc' w hx.1 hx.2 hy.1 hy.2 ⟨hm,hm2⟩ hauthor hnumber hprev htime hkind ha hb hc hlist
  rw [sameS_no (by rintro rfl;exact hlist rfl)]
  exact this
 by_cases hpins:s.pins=t.pins
 case neg=>
  have:=same_ne_pins s t lo lo' po po' ln lc ln' lc' pn pc pn' pc' w hx.1 hx.2 hy.1 hy.2 ⟨hm,hm2⟩ hauthor hnumber hprev htime hkind ha hb hc hlist hpins
  rw [sameS_no (by rintro rfl;exact hpins rfl)]
  exact this
 by_cases hbody:s.body=t.body
 case neg=>
  have:=same_ne_body s t lo lo' po po' ln lc ln' lc' pn pc pn' pc' w hx.1 hx.2 hy.1 hy.2 ⟨hm,hm2⟩ hauthor hnumber hprev htime hkind ha hb hc hlist hpins hbody
  rw [sameS_no (by rintro rfl;exact hbody rfl)]
  exact this
 by_cases hseal: (s.key=t.key∧s.dig=t.dig)
 case neg=>
  have:=same_ne_seal s t lo lo' po po' ln lc ln' lc' pn pc pn' pc' w hx.1 hx.2 hy.1 hy.2 ⟨hm,hm2⟩ hauthor hnumber hprev htime hkind ha hb hc hlist hpins hbody hseal
  rw [sameS_no (by rintro rfl;exact hseal ⟨rfl,rfl⟩)]
  exact this
 have:=same_eq s t lo lo' po po' ln lc ln' lc' pn pc pn' pc' w hx.1 hx.2 hy.1 hy.2 ⟨hm,hm2⟩ hauthor hnumber hprev htime hkind ha hb hc hlist hpins hbody hseal
 have he:sameS s t=true:=by simp [sameS,hauthor,hnumber,hprev,htime,hkind,ha,hb,hc,hlist,hpins,hbody,hseal.1,hseal.2]
 rw [he]
 exact this
def LightL (m:Nat) (l:List St):Prop:=∀s∈l,s.list.length≤m∧s.pins.length≤m
theorem LightL.get {m:Nat} {l:List St} (h:LightL m l) {i:Nat} {s:St} (hi:l[i]? =some s):s.list.length≤m∧s.pins.length≤m:=h s (List.mem_of_getElem? hi)
theorem st_get {P:Nat→Prop} {w:World} {ao:Option Addr} {xs:List St} (h:SlAt stRep P w ao xs) (i:Nat) (hi:i < xs.length):∃b off s l p,ao=some ⟨b,off,none⟩∧P b∧Lies P w (s,l,p)∧w.rangeAt b (off+i * 13) (stE (s,l,p))∧Hid (xs[i]? =some s):=by
 obtain⟨b,off,cs,s,e,hp,hr,⟨l,p,rfl,hl⟩,hx⟩:=h.get i hi
 exact⟨b,off,s,l,p,e,hp,hl,hr,hx⟩
set_option maxHeartbeats 2000000 in
set_option maxRecDepth 100000 in
theorem sameList_any {P Q:Nat→Prop} (v1 v2:Value) (xs ys:List St) (w:World) (hv1:Sl stRep P w v1 xs) (hv2:Sl stRep Q w v2 ys) (hm:xs.length≤1000000) (hl:LightL 1000000 xs) :
 Calls Tryz.prog 83 #[v1,v2] w fun e w'=>∃b,e=.returned (.bool b)∧Hid (b=true ↔ xs=ys)∧Ex w.heap.size none w w':=by
 obtain⟨ao,cap,rfl,hx⟩:=hv1
 obtain⟨bo,cbp,rfl,hy⟩:=hv2
 have HLL:=Lib.hid hl
 clear hl
 by_cases hl:xs.length=ys.length
 · have hl1: ((xs.length:Int) != ys.length)=false:=by simp [hl]
   have HL:=Lib.hid hl
   go_enter Tryz.func83,Tryz.ntmps83
   clear hl
   go_wp2
   clear hl1
   go_loopw [5] (fun i wr=>∃k:Nat,k≤xs.length∧i=.int .i64 k∧Hid (xs.take k=ys.take k)∧Ex w.heap.size none w wr) (fun i _=>xs.length - (intOf i).toNat)
   case atStart=>exact⟨0,Nat.zero_le _,rfl,(show _=_ by simp),Ex.refl _ _ _⟩
   case round=>
    obtain⟨k,hk,rfl,HT,hex⟩:=hrel
    have hsz:=hex.size
    by_cases hlt:k < xs.length
    · have hlt2:k < ys.length:=by have:=HL.out;omega
      have fx:=hx.keep (by decide) (fun b _ hb=>hex.block b hb (by simp))
      have fy:=hy.keep (by decide) (fun b _ hb=>hex.block b hb (by simp))
      obtain⟨b,off,s,l,p,rfl,_,hls,hr,HX⟩:=st_get fx k hlt
      obtain⟨b',off',s',l',p',rfl,_,hls',hr',HY⟩:=st_get fy k hlt2
      have hm1:=HLL.out.get HX.out
      have hq1:=ExW.st_at hr
      have hq2:=ExW.st_at hr'
      have hsame:=fun p0:ExW wr=>same_any (s,l,p) (s',l',p') p0.w' (p0.lies hls) (p0.lies hls') (by simp only;omega) (by simp only;omega)
      clear fx fy hr hr' hls hls'
      by_cases he:s=s'
      · have hss:sameS s s' =true:=sameS_iff.2 he
        have HR:=Lib.hid (same_takeG HT.out HX.out HY.out he)
        simp only [hss] at hsame
        clear he
        have HSM:=Lib.hid hsame
        clear hsame
        go_wp2_with fail
        refine wp_region_quiet_ex (by kernel_rfl) (by kernel_rfl) ?_
        repeat(quiet_step ((go_at_call 110;refine calls_ex_of (HSM.out _))))
        refine wpQuiet_nil ?_
        intro _ hw'
        obtain⟨p9,hw''⟩:=hw'
        subst hw''
        go_wp2
        go_roundw
        case rel=>exact⟨k+1,by omega,by go_num,HR,hex.trans p9.ex hsz (by simp)⟩
        case measure=>simp [intOf];omega
      · have hss:sameS s s' =false:=by rw [Bool.eq_false_iff];intro h;exact he (sameS_iff.1 h)
        have HR:Hid (xs≠ys):=fun h=>he (by have:=HX.out;rw [h,HY.out] at this;cases this;rfl)
        simp only [hss] at hsame
        clear he
        have HSM:=Lib.hid hsame
        clear hsame
        go_wp2_with fail
        refine wp_region_quiet_ex (by kernel_rfl) (by kernel_rfl) ?_
        repeat(quiet_step ((go_at_call 110;refine calls_ex_of (HSM.out _))))
        refine wpQuiet_nil ?_
        intro _ hw'
        obtain⟨p9,hw''⟩:=hw'
        subst hw''
        go_wp2
        go_ret
        exact⟨false,rfl,(by simp [HR.out]:_ ↔ _),hex.trans p9.ex hsz (by simp)⟩
    · have HR:Hid (xs=ys):=by
       have h:=HT.out
       have:=HL.out
       rwa [List.take_of_length_le (by omega),List.take_of_length_le (by omega)] at h
      go_wp2
      go_ret
      exact⟨true,rfl,(by simp [HR.out]:_ ↔ _),hex⟩
 · have hl1: ((xs.length:Int) != ys.length)=true:=by simp;omega
   have HR:Hid (xs≠ys):=fun h=>hl (by rw [h])
   clear hl
   go_enter Tryz.func83,Tryz.ntmps83
   go_wp2
   go_ret
   exact⟨false,rfl,(by simp [HR.out]:_ ↔ _),Ex.refl _ _ _⟩
theorem Tryz.infoSt: (Tryz.prog.info? 51).map (fun i=>(i.zero,i.size,i.bytes))=some (some (.agg #[.int .i64 0,.int .i64 0,.string ⟨#[]⟩,.int .i64 0,.int .i64 0,.int .i64 0,.int .i64 0,.int .i64 0,.slice none 0 0,.slice none 0 0,.string ⟨#[]⟩,.int .i64 0,.string ⟨#[]⟩]),13,160):=by kernel_rfl
def rowOf (ao:Option Addr):Option Nat:=ao.map (·.block)
def OwnS (w:World) (base:Nat) (ao:Option Addr) (cap:Nat) (l:List St):Prop :=
 ∃xs:List (St×Sv×Sv),xs.map (·.1)=l∧OwnE stE 13 51 w base ao cap xs∧∀x∈xs,Lies (fun b=>base≤b∧rowOf ao≠some b) w x
theorem OwnS.nil (w:World) (base:Nat):OwnS w base none 0 []:=⟨[],rfl,OwnE.nil _ _ _ _ _,fun x hx=>by simp at hx⟩
theorem OwnS.keep {w w' :World} {base B:Nat} {ao:Option Addr} {cap:Nat} {l:List St} (h:OwnS w base ao cap l) (hx:Ex B none w w') (hB:w.heap.size≤B):OwnS w' base ao cap l:=by
 obtain⟨xs,e,h1,h2⟩:=h
 exact⟨xs,e,h1.keep hx hB (by simp),fun x hxx=>(h2 x hxx).keep fun b _ hb=>hx.block b (by omega) (by simp)⟩
theorem OwnS.sl {w:World} {base:Nat} {ao:Option Addr} {cap:Nat} {l:List St} (h:OwnS w base ao cap l):Sl stRep (fun b=>base≤b) w (.slice ao l.length cap) l:=by
 obtain⟨xs,rfl,h1,h2⟩:=h
 refine⟨ao,cap,by simp,?_⟩
 rcases h1.cases with⟨_,_,h0⟩ | ⟨g,rfl,hb,_,_⟩
 · subst h0;exact SlAt.nil _ _ _
 · exact st_sl hb (h1.holds stE_len) (fun x hx=>(h2 x hx).mono fun b hb _=>hb.1)
theorem wpList_appS {P:Program} {w:World} {ops:Array Oper} {rest:List Oper} {o:Oper} {a:Act} {Q:Exit→Act→World→Prop} (hgd:o.guard=none) (s u:Operand) (t:TypeId)
 (ho:o.op=.call { callee:=.builtin .append,args:=#[s,u],argTypes:=#[t,t] }) (ht:P.underlying t=some (.slice 51))
 (hinfo: (P.info? 51).map (fun i=>(i.zero,i.size,i.bytes))=some (some (.agg #[.int .i64 0,.int .i64 0,.string ⟨#[]⟩,.int .i64 0,.int .i64 0,.int .i64 0,.int .i64 0,.int .i64 0,.slice none 0 0,.slice none 0 0,.string ⟨#[]⟩,.int .i64 0,.string ⟨#[]⟩]),13,160))
 (base:Nat) (ao:Option Addr) (cap n:Nat) (l:List St) (hn:n=l.length) (hs:a.eval s=.slice ao n cap) (g:Nat) (hu:a.eval u=.slice (some ⟨g,0,none⟩) 1 1) (x:St×Sv×Sv)
 (hown:OwnS w base ao cap l) (hc:∀(j:Nat) (v:Value),(stE x)[j]? =some v→w.cell? ⟨g,j,none⟩=some v) (hx:Lies (fun b=>base≤b∧rowOf ao≠some b) w x) (hlen:l.length≤1000000) (hbase:base≤w.heap.size)
 (h:∀ao' cap' w',OwnS w' base ao' cap' (l ++ [x.1])→Ex base none w w'→wpList P ops Q rest (a.put o.dst (.slice ao' (l.length+1) cap')) w'):wpList P ops Q (o :: rest) a w:=by
 subst hn
 obtain⟨i0,hi,hz0,hz1,hz2⟩:=info_parts hinfo
 obtain⟨xs,rfl,h1,h2⟩:=hown
 have e1: (xs.map (·.1)).length=xs.length:=by simp
 rw [e1] at hs
 refine wpList_append_own_at _ hgd s u t ho base 51 i0 _ 13 160 ht hi hz0 hz1 hz2 rfl (by decide) _ _ _ hs h1 ⟨g,0,none⟩ 1 1 (stE x) hu rfl (fun j v hv=>by rw [Addr.add_lit,Nat.zero_add];exact hc j v hv) (one_stE x) (by simp only [maxLen];omega) (by omega) hbase ?_
 intro v' w' ho' hg _ hnew
 obtain⟨ao',cap',rfl⟩:=own_shape ho'
 rw [e1] at h
 have hrow: (Value.slice ao xs.length cap).ownBlock=rowOf ao:=by cases ao <;> rfl
 have hrow' : (Value.slice ao' (xs.length+1) cap').ownBlock=rowOf ao':=by cases ao' <;> rfl
 rw [hrow] at hg hnew
 rw [hrow'] at hnew
 have hkeep:∀y,Lies (fun b=>base≤b∧rowOf ao≠some b) w y→Lies (fun b=>base≤b∧rowOf ao'≠some b) w' y:=fun y hy=>by
  refine Lies.mono (P:=fun b=>(base≤b∧rowOf ao≠some b)∧b < w.heap.size) (Lies.keep (w:=w) (hy.mono fun b hb hlt=>⟨hb,hlt⟩) fun b hb hlt=>hg.block b hlt (fun e=>hb.1.2 e.symm)) (fun b hb _=>⟨hb.1.1,fun e=>?_⟩)
  rcases hb with⟨⟨_,hb1⟩,hb2⟩
  rcases hnew with h0 | h0
  · exact hb1 (h0 ▸ e)
  · rw [e] at h0;cases h0;omega
 refine h ao' cap' w' ⟨xs ++ [x],by simp,?_,fun y hy=>?_⟩ ?_
 · unfold OwnE
   have e2:flatL stE (xs ++ [x])=flatL stE xs ++ stE x:=by simp [flatL]
   rw [e2,List.length_append];exact ho'
 · simp only [List.mem_append,List.mem_singleton] at hy
   rcases hy with hy | rfl
   · exact hkeep y (h2 y hy)
   · exact hkeep y hx
 · refine⟨hg.os,hg.tape,hg.output,hg.size,fun k hk _=>hg.block k (by omega) (fun e=>?_)⟩
   cases ao with
   | none=>cases e
   | some ad=>
     have:=(h1.lt ad rfl).1
     simp [rowOf] at e
     omega
def cellsS (s:St) (lo:Option Addr) (ln lc:Nat) (po:Option Addr) (pn pc:Nat):List Value :=
 [.int .i64 s.author,.int .i64 s.number,.string s.prev,.int .i64 s.time,.int .i64 s.kind,.int .i64 s.a,.int .i64 s.b,.int .i64 s.c,.slice lo ln lc,.slice po pn pc,.string s.body,.int .i64 s.key,.string s.dig]
theorem copy03_lit {P:Nat→Prop} (s:St) (lo po:Option Addr) (ln lc pn pc:Nat) (w:World) (hx:Lies P w (s,⟨lo,ln,lc⟩,⟨po,pn,pc⟩)) (hm:s.list.length≤1000000∧s.pins.length≤1000000) :
 Calls Tryz.prog 52 #[.agg #[.int .i64 s.author,.int .i64 s.number,.string s.prev,.int .i64 s.time,.int .i64 s.kind,.int .i64 s.a,.int .i64 s.b,.int .i64 s.c,.slice lo ln lc,.slice po pn pc,.string s.body,.int .i64 s.key,.string s.dig]] w fun e w'=>
  ∃(la:Option Addr) (na ca:Nat) (pa:Option Addr) (np cp:Nat),e=.returned (.agg #[.int .i64 s.author,.int .i64 s.number,.string s.prev,.int .i64 s.time,.int .i64 s.kind,.int .i64 s.a,.int .i64 s.b,.int .i64 s.c,.slice la na ca,.slice pa np cp,.string s.body,.int .i64 s.key,.string s.dig])∧
   Lies (fun b=>w.heap.size≤b) w' (s,⟨la,na,ca⟩,⟨pa,np,cp⟩)∧Ex w.heap.size none w w' :=
 (copy03_any s lo po ln lc pn pc w hx.1 hx.2 hm.1 hm.2).mono fun _ _ ⟨⟨la,na,ca⟩,⟨pa,np,cp⟩,he,hl,hex⟩=>⟨la,na,ca,pa,np,cp,he,hl,hex⟩
theorem filter_yes {p:St→Bool} {l:List St} {k:Nat} {s:St} (h:l[k]? =some s) (hp:p s=true): (l.take (k+1)).filter p= (l.take k).filter p ++ [s]:=by
 rw [List.take_add_one,h,List.filter_append];simp [hp]
theorem filter_no {p:St→Bool} {l:List St} {k:Nat} {s:St} (h:l[k]? =some s) (hp:p s=false): (l.take (k+1)).filter p= (l.take k).filter p:=by
 rw [List.take_add_one,h,List.filter_append];simp [hp]
theorem filter_le {p:St→Bool} {l:List St} {k:Nat} (hk:k≤l.length): ((l.take k).filter p).length≤k:=Nat.le_trans (List.length_filter_le _ _) (by simp;omega)
theorem lit_st {w:World} {x:St×Sv×Sv} {t:TypeId} {cs:Array Value} (h:cs.toList=stE x):∀(j:Nat) (v:Value),(stE x)[j]? =some v→(w.alloc (.cells cs t)).cell? ⟨w.heap.size,j,none⟩=some v:=fun j v hv=>by
 rw [cell_of_row _ _ _ _ _ _ (heap_alloc_new w _)]
 rw [←h] at hv
 simpa using hv
theorem lies_new {wr w2:World} {base:Nat} {ao:Option Addr} {cap:Nat} {l:List St} {x:St×Sv×Sv} {o:Obj} (hown:OwnS wr base ao cap l) (hx:Lies (fun b=>wr.heap.size≤b) w2 x) (hb:base≤wr.heap.size):Lies (fun b=>base≤b∧rowOf ao≠some b) (w2.alloc o) x:=by
 obtain⟨xs,_,h1,_⟩:=hown
 refine Lies.mono (P:=fun b=>wr.heap.size≤b) (hx.keep fun b _ hlt=>(Ex.new w2 o).block b hlt (by simp)) (fun b hbb _=>⟨by omega,fun e=>?_⟩)
 cases ao with
 | none=>cases e
 | some ad=>
   have:=(h1.lt ad rfl).2
   simp [rowOf] at e
   omega
set_option maxHeartbeats 2000000 in
set_option maxRecDepth 100000 in
theorem copyList_any {P:Nat→Prop} (v:Value) (l:List St) (w:World) (hv:Sl stRep P w v l) (hm:l.length≤100000) (hl:LightL 1000000 l) :
 Calls Tryz.prog 109 #[v] w fun e w'=>∃ro rc,e=.returned (.slice ro l.length rc)∧OwnS w' w.heap.size ro rc l∧Ex w.heap.size none w w':=by
 obtain⟨ao,cap,rfl,hx⟩:=hv
 have HL:=Lib.hid hl
 clear hl
 go_enter Tryz.func109,Tryz.ntmps109
 go_wp2
 go_loopw [3,4] (fun v i wr=>∃(k:Nat) (ro:Option Addr) (rc:Nat),k≤l.length∧i=.int .i64 k∧v=.slice ro k rc∧OwnS wr w.heap.size ro rc (l.take k)∧Ex w.heap.size none w wr) (fun _ i _=>l.length - (intOf i).toNat)
 case atStart=>exact⟨0,none,0,by omega,rfl,rfl,by simpa using OwnS.nil _ _,Ex.refl _ _ _⟩
 case round=>
  obtain⟨k,ro,rc,hk,rfl,rfl,hown,hex⟩:=hrel
  have hle: (l.take k).length=k:=by simp;omega
  have HLE:=Lib.hid hle
  have hsz:=hex.size
  by_cases hlt:k < l.length
  · have fx:=hx.keep (by decide) (fun b _ hb=>hex.block b hb (by simp))
    obtain⟨b,off,s,⟨lo,ln,lc⟩,⟨po,pn,pc⟩,rfl,_,hls,hr,HX⟩:=st_get fx k hlt
    have hc:=st_at hr
    simp only [Sv.v] at hc
    obtain⟨c0,c1,c2,c3,c4,c5,c6,c7,c8,c9,c10,c11,c12⟩:=hc
    have hm1:=HL.out.get HX.out
    have HLS:=Lib.hid hls
    have HO:=Lib.hid hown
    clear fx hr hls hown
    have HK:Hid (l.take (k+1)=l.take k ++ [s]):=(show _=_ by rw [List.take_add_one,HX.out];rfl)
    clear hle
    go_wp2_with fail
    refine(copy03_lit s lo po ln lc pn pc _ HLS.out (by omega)).mono ?_
    rintro e w2 ⟨la,na,ca,pa,np,cp,rfl,hl2,hex2⟩
    have hs2:=hex2.size
    have HL2:=Lib.hid hl2
    clear hl2 c0 c1 c2 c3 c4 c5 c6 c7 c8 c9 c10 c11 c12
    go_wp2_with (at_builtin;refine wpList_appS rfl (.tmp 11) (.tmp 17) _ rfl Tryz.underlying27 Tryz.infoSt w.heap.size ro rc _ (l.take k) HLE.out.symm (by rfl) w2.heap.size (by rfl) (s,⟨la,na,ca⟩,⟨pa,np,cp⟩) (HO.out.keep (hex2.trans (Ex.new w2 _) hs2 (by simp)) (Nat.le_refl _)) (lit_st rfl) (lies_new HO.out HL2.out hsz) (by rw [HLE.out];omega) (by simp <;> omega) ?_;intro ro' rc' w3 hown3 hex3)
    go_roundw
    case rel=>exact⟨k+1,ro',rc',by omega,by go_num,rfl,by rw [HK.out];exact hown3,(hex.trans hex2 hsz (by simp)).trans ((Ex.new w2 _).mono (show w.heap.size≤w2.heap.size by omega) |>.trans hex3 (Nat.le_refl _) (by simp)) (Nat.le_refl _) (by simp)⟩
    case measure=>simp [intOf] <;> omega
  · obtain rfl:k=l.length:=by omega
    rw [List.take_length] at hown
    go_wp2
    go_ret
    exact⟨ro,rc,rfl,hown,hex⟩
section
section
variable {α:Type} [Inhabited α]
omit [Inhabited α] in
theorem wp_appE {P:Program} {w:World} {o:Oper} {a:Act} {K:Act→World→Prop} {Q:Exit→Act→World→Prop} (s u:Operand) (t e:TypeId)
 (ho:o.op=.call { callee:=.builtin .append,args:=#[s,u],argTypes:=#[t,t] }) (ht:P.underlying t=some (.slice e)) (z:Value) (k bytes:Nat)
 (hinfo: (P.info? e).map (fun i=>(i.zero,i.size,i.bytes))=some (some z,k,bytes)) (hzc:z.cells.size=k) (hk0:0 < k) (hb:bytes≤1000)
 (enc:α→List Value) (hk:∀x,(enc x).length=k) (h1:∀x,∀v∈enc x,v.oneCell' =true)
 (base:Nat) (ao:Option Addr) (cap n:Nat) (xs:List α) (hn:xs.length=n) (hs:a.eval s=.slice ao n cap) (so:Option Addr) (m sc:Nat) (hu:a.eval u=.slice so m sc) (ys:List α) (hm:ys.length=m)
 (hown:OwnE enc k e w base ao cap xs) (hsrc:ys.length=0∨∃ad,so=some ad∧∀(j:Nat) (v:Value),(flatL enc ys)[j]? =some v→w.cell? (ad.add j)=some v) (hlen:n+m≤10000000) (hbase:base≤w.heap.size) (r:Nat) (hr:n+m=r)
 (h:∀ao' cap' w',OwnE enc k e w' base ao' cap' (xs ++ ys)→Ex base none w w'→(∀b,b < w.heap.size→rowOf ao≠some b→w'.heap[b]? =w.heap[b]?)→(rowOf ao' =rowOf ao∨rowOf ao' =some w.heap.size)→K (a.put o.dst (.slice ao' r cap')) w'):o.wp P a w K Q:=by
 subst hr hn hm
 obtain⟨i0,hi,hz0,hz1,hz2⟩:=info_parts hinfo
 have key:∀so ad,so=some ad→a.eval u=.slice so ys.length sc→(∀(j:Nat) (v:Value),(flatL enc ys)[j]? =some v→w.cell? (ad.add j)=some v)→o.wp P a w K Q:=fun so ad e2 hu hc=>by
  subst e2
  have hbb: (xs.length+ys.length) * bytes≤140737488355328:=by have:=Nat.mul_le_mul hlen hb;omega
  obtain⟨v',w',hr,ho',hg,_,hnew⟩:=run_append_own_at (P:=P) w base t o.type e i0 z k bytes ht hi hz0 hz1 hz2 hzc hk0 _ _ _ hown ad ys.length sc (flatL enc ys) (flatL_len hk ys) hc (flatL_one h1 ys) (by simp only [maxLen];omega) hbb hbase
  obtain⟨ao',cap',rfl⟩:=own_shape ho'
  have hrow: (Value.slice ao xs.length cap).ownBlock=rowOf ao:=by cases ao <;> rfl
  have hrow' : (Value.slice ao' (xs.length+ys.length) cap').ownBlock=rowOf ao':=by cases ao' <;> rfl
  rw [hrow] at hg hnew
  rw [hrow'] at hnew
  unfold Oper.wp execOp
  simp only [ho,resolve,invoke,builtin,Sem.run_bind,Sem.run_pure,Result.andThen_ok,List.map_toArray,List.map_cons,List.map_nil,hs,hu,hr]
  refine h ao' cap' w' ?_ ?_ (fun b hb hne=>hg.block b hb (fun e=>hne e.symm)) hnew
  · unfold OwnE
    have e2:flatL enc (xs ++ ys)=flatL enc xs ++ flatL enc ys:=by simp [flatL]
    rw [e2,List.length_append];exact ho'
  · refine⟨hg.os,hg.tape,hg.output,hg.size,fun q hq _=>hg.block q (by omega) (fun e=>?_)⟩
    cases ao with
    | none=>cases e
    | some ad=>
      have:=(hown.lt ad rfl).1
      simp [rowOf] at e
      omega
 rcases hsrc with h0 | ⟨ad,e2,hc⟩
 · have hy:ys=[]:=List.eq_nil_of_length_eq_zero h0
   cases so with
   | some ad=>exact key _ ad rfl hu (fun j v hv=>by subst hy;simp [flatL] at hv)
   | none=>
     subst hy
     have hrun:=run_append_none (P:=P) (w:=w) base t o.type _ i0 k ht hi _ _ sc _ hown
     unfold Oper.wp execOp
     simp only [ho,resolve,invoke,builtin,Sem.run_bind,Sem.run_pure,Result.andThen_ok,List.map_toArray,List.map_cons,List.map_nil,hs,hu,List.length_nil,hrun]
     exact h ao cap w (by simpa using hown) (Ex.refl _ _ _) (fun _ _ _=>rfl) (.inl rfl)
 · exact key so ad e2 hu hc
omit [Inhabited α] in
theorem step_appE {P:Program} {w:World} {ops:Array Oper} {o:Oper} {a:Act} {K:Act→World→Prop} {Q:Exit→Act→World→Prop} {E:Prop} (hgd:o.guard=none) (s u:Operand) (t e:TypeId)
 (ho:o.op=.call { callee:=.builtin .append,args:=#[s,u],argTypes:=#[t,t] }) (ht:P.underlying t=some (.slice e)) (z:Value) (k bytes:Nat)
 (hinfo: (P.info? e).map (fun i=>(i.zero,i.size,i.bytes))=some (some z,k,bytes)) (hzc:z.cells.size=k) (hk0:0 < k) (hb:bytes≤1000)
 (enc:α→List Value) (hk:∀x,(enc x).length=k) (h1:∀x,∀v∈enc x,v.oneCell' =true)
 (base:Nat) (ao:Option Addr) (cap n:Nat) (xs:List α) (hn:xs.length=n) (hs:a.eval s=.slice ao n cap) (so:Option Addr) (m sc:Nat) (hu:a.eval u=.slice so m sc) (ys:List α) (hm:ys.length=m)
 (hown:OwnE enc k e w base ao cap xs) (hsrc:ys.length=0∨∃ad,so=some ad∧∀(j:Nat) (v:Value),(flatL enc ys)[j]? =some v→w.cell? (ad.add j)=some v) (hlen:n+m≤10000000) (hbase:base≤w.heap.size) (r:Nat) (hr:n+m=r)
 (h:∀ao' cap' w',OwnE enc k e w' base ao' cap' (xs ++ ys)→Ex base none w w'→(∀b,b < w.heap.size→rowOf ao≠some b→w'.heap[b]? =w.heap[b]?)→(rowOf ao' =rowOf ao∨rowOf ao' =some w.heap.size)→K (a.put o.dst (.slice ao' r cap')) w') :
 if Region.wanted o (yielded ops a.tmps)=true then o.wp P a w K Q else E:=by
 rw [if_pos (show Region.wanted o (yielded ops a.tmps)=true by simp [Region.wanted,hgd])]
 exact wp_appE s u t e ho ht z k bytes hinfo hzc hk0 hb enc hk h1 base ao cap n xs hn hs so m sc hu ys hm hown hsrc hlen hbase r hr h
omit [Inhabited α] in
theorem wpList_appE2 {P:Program} {w:World} {ops:Array Oper} {rest:List Oper} {o:Oper} {a:Act} {Q:Exit→Act→World→Prop} (hgd:o.guard=none) (s u:Operand) (t e:TypeId)
 (ho:o.op=.call { callee:=.builtin .append,args:=#[s,u],argTypes:=#[t,t] }) (ht:P.underlying t=some (.slice e)) (z:Value) (k bytes:Nat)
 (hinfo: (P.info? e).map (fun i=>(i.zero,i.size,i.bytes))=some (some z,k,bytes)) (hzc:z.cells.size=k) (hk0:0 < k) (hb:bytes≤1000)
 (enc:α→List Value) (hk:∀x,(enc x).length=k) (h1:∀x,∀v∈enc x,v.oneCell' =true)
 (base:Nat) (ao:Option Addr) (cap n:Nat) (xs:List α) (hn:xs.length=n) (hs:a.eval s=.slice ao n cap) (so:Option Addr) (m sc:Nat) (hu:a.eval u=.slice so m sc) (ys:List α) (hm:ys.length=m)
 (hown:OwnE enc k e w base ao cap xs) (hsrc:ys.length=0∨∃ad,so=some ad∧∀(j:Nat) (v:Value),(flatL enc ys)[j]? =some v→w.cell? (ad.add j)=some v) (hlen:n+m≤10000000) (hbase:base≤w.heap.size) (r:Nat) (hr:n+m=r)
 (h:∀ao' cap' w',OwnE enc k e w' base ao' cap' (xs ++ ys)→Ex base none w w'→(∀b,b < w.heap.size→rowOf ao≠some b→w'.heap[b]? =w.heap[b]?)→(rowOf ao' =rowOf ao∨rowOf ao' =some w.heap.size)→wpList P ops Q rest (a.put o.dst (.slice ao' r cap')) w'):wpList P ops Q (o :: rest) a w :=
 wpList_plain hgd fun _K hK=>wp_appE s u t e ho ht z k bytes hinfo hzc hk0 hb enc hk h1 base ao cap n xs hn hs so m sc hu ys hm hown hsrc hlen hbase r hr fun ao' cap' w' h1 h2 h3 h4=>hK _ _ (h ao' cap' w' h1 h2 h3 h4)
end
theorem OwnE.lowerE {α:Type} {enc:α→List Value} {k:Nat} {e:TypeId} {w:World} {base base' :Nat} {ao:Option Addr} {cap:Nat} {xs:List α} (h:OwnE enc k e w base ao cap xs) (hb:base'≤base):OwnE enc k e w base' ao cap xs:=by
 refine⟨h.1,?_⟩
 rcases h.2 with h | ⟨g,c,cur,e1,e2,e3⟩
 · exact .inl h
 · exact .inr ⟨g,c,cur,e1,by omega,e3⟩
def byE (b:UInt8):List Value:=[.int .u8 b.toNat]
theorem byE_len (b:UInt8): (byE b).length=1:=rfl
theorem one_byE:∀b,∀v∈byE b,v.oneCell' =true:=fun b v hv=>by simp [byE] at hv;subst hv;rfl
def byRep:Rep UInt8:=valRep byE 1 byE_len one_byE
theorem Tryz.infoB: (Tryz.prog.info? 5).map (fun i=>(i.zero,i.size,i.bytes))=some (some (.int .u8 0),1,1):=by kernel_rfl
abbrev OwnB (w:World) (base:Nat) (ao:Option Addr) (cap:Nat) (xs:List UInt8):Prop:=OwnE byE 1 5 w base ao cap xs
theorem flat_byE (xs:List UInt8):flatL byE xs=xs.map fun b=>.int .u8 b.toNat:=by
 induction xs with
 | nil=>rfl
 | cons x r ih=>simp only [flatL,List.flatMap_cons,List.map_cons] at *;rw [ih];rfl
theorem OwnB.sl {w:World} {base:Nat} {ao:Option Addr} {cap:Nat} {xs:List UInt8} (h:OwnB w base ao cap xs):Sl byRep (fun b=>base≤b) w (.slice ao xs.length cap) xs:=by
 refine⟨ao,cap,rfl,?_⟩
 rcases h.cases with⟨_,_,h0⟩ | ⟨g,rfl,hb,_,_⟩
 · subst h0;exact SlAt.nil _ _ _
 · exact val_sl hb (h.holds byE_len)
theorem by_get {P:Nat→Prop} {w:World} {ao:Option Addr} {xs:List UInt8} (h:SlAt byRep P w ao xs) (i:Nat) (hi:i < xs.length):∃b off,ao=some ⟨b,off,none⟩∧P b∧b < w.heap.size∧w.cell? ⟨b,off+i,none⟩=some (.int .u8 (xs[i]).toNat):=by
 obtain⟨b,off,cs,e,hp,hr,hR⟩:=h i hi
 have:=hr 0 (.int .u8 (xs[i]).toNat) (by rw [show cs=_ from hR];rfl)
 rw [show off+i * byRep.k+0=off+i by simp [byRep,valRep]] at this
 exact⟨b,off,e,hp,World.block_lt_of_cell? w _ this,this⟩
theorem by_at {P:Nat→Prop} {w:World} {ao:Option Addr} {xs:List UInt8} (h:SlAt byRep P w ao xs) (i:Nat) (hi:i < xs.length):∃b off y,ao=some ⟨b,off,none⟩∧b < w.heap.size∧w.cell? ⟨b,off+i,none⟩=some (.int .u8 y.toNat)∧xs[i]? =some y:=by
 obtain⟨b,off,e,_,hb,hc⟩:=by_get h i hi
 exact⟨b,off,xs[i],e,hb,hc,by simp [hi]⟩
def by8 (z:Int):UInt8:=UInt8.ofNat (z % 256).toNat
theorem by8_wrap (z:Int):IntKind.u8.wrap z= ((by8 z).toNat:Int):=by
 rw [IntKind.wrap_u8]
 unfold by8
 rw [UInt8.toNat_ofNat']
 omega
def strL (s:ByteArray):List UInt8:=s.data.toList
theorem strL_len (s:ByteArray): (strL s).length=s.size:=Array.length_toList
theorem wpList_appB_str {P:Program} {w:World} {ops:Array Oper} {rest:List Oper} {o:Oper} {a:Act} {Q:Exit→Act→World→Prop} (hgd:o.guard=none) (sl x:Operand) (t u:TypeId)
 (ho:o.op=.call { callee:=.builtin .append,args:=#[sl,x],argTypes:=#[t,u] }) (ht:P.underlying t=some (.slice 5)) (hu:P.underlying u=some .string)
 (hinfo: (P.info? 5).map (fun i=>(i.zero,i.size,i.bytes))=some (some (.int .u8 0),1,1)) (base:Nat) (ao:Option Addr) (cap n:Nat) (xs:List UInt8) (hn:xs.length=n) (hs:a.eval sl=.slice ao n cap) (s:ByteArray) (hx:a.eval x=.string s)
 (hown:OwnB w base ao cap xs) (hlen:n+s.size≤10000000) (hbase:base≤w.heap.size)
 (h:∀ao' cap' w',OwnB w' base ao' cap' (xs ++ strL s)→Ex base none w w'→wpList P ops Q rest (a.put o.dst (.slice ao' (n+s.size) cap')) w'):wpList P ops Q (o :: rest) a w:=by
 subst hn
 obtain⟨i0,hi,hz0,hz1,hz2⟩:=info_parts hinfo
 refine Go.Lib.wpList_append_own_string _ hgd sl x t u ho base 5 i0 ht hu hi hz0 hz1 hz2 _ _ _ hs hown s hx (by simp only [maxLen];omega) (by omega) hbase ?_
 intro v' w' ho' hg _
 obtain⟨ao',cap',rfl⟩:=own_shape ho'
 refine h ao' cap' w' ?_ ⟨hg.os,hg.tape,hg.output,hg.size,fun q hq _=>hg.block q (by omega) (fun e=>?_)⟩
 · unfold OwnB OwnE
   have e2:flatL byE (xs ++ strL s)=flatL byE xs ++ Go.Lib.strCells s:=by
    rw [flat_byE,flat_byE,List.map_append];rfl
   rw [e2,List.length_append,strL_len];exact ho'
 · cases ao with
   | none=>cases e
   | some ad=>
     have:=(hown.lt ad rfl).1
     simp [Value.ownBlock] at e
     omega
def strOf (xs:List UInt8):ByteArray:=⟨xs.toArray⟩
theorem strOf_size (xs:List UInt8): (strOf xs).size=xs.length:=List.size_toArray
theorem run_strOf {P:Program} {R:Nat→Prop} {w:World} {v:Value} {xs:List UInt8} (hv:Sl byRep R w v xs) (src dst:TypeId) (hs:P.underlying src=some (.slice 5)) (he:P.underlying 5=some (.int .u8)) (hd:P.underlying dst=some .string) :
 (convert src dst v).run P w=.ok (.string (strOf xs)) w:=by
 obtain⟨ao,cap,rfl,h⟩:=hv
 cases ao with
 | none=>
   have h0:xs=[]:=by
    rcases Nat.eq_zero_or_pos xs.length with h0 | h0
    · exact List.eq_nil_of_length_eq_zero h0
    · obtain⟨b,off,e,_⟩:=by_get h 0 h0
      cases e
   subst h0
   exact run_convert_bytes_nil w src 5 hs he _ _ dst hd
 | some ad=>
   rcases Nat.eq_zero_or_pos xs.length with h0 | h0
   · have:xs=[]:=List.eq_nil_of_length_eq_zero h0
     subst this
     obtain⟨b,off,sp⟩:=ad
     have hl: (loadCells ⟨b,off,sp⟩ 0).run P w=.ok #[] w:=by simpa using run_loadCells_list (P:=P) w ⟨b,off,sp⟩ [] (by simp)
     have h1:=run_convert_bytes_string w src dst 5 (some ⟨b,off,sp⟩) 0 cap hs he hd
     have h2:=run_bytesToString w ⟨b,off,sp⟩ 0 cap [] (by simpa using hl)
     simp only [List.length_nil]
     rw [h1,h2]
     rfl
   · obtain⟨b,off,e,_,_,_⟩:=by_get h 0 h0
     cases e
     have:=run_convert_bytes_arg (P:=P) w src 5 hs he b off xs.length cap (xs.map fun b=>(b.toNat:Int)) (by simp) (fun i hi=>by
      obtain⟨b',off',e',_,_,hc⟩:=by_get h i hi
      cases e'
      rw [hc];simp [List.getD,hi]) dst hd
     rw [this]
     congr 2
     unfold strOfNums strOf
     congr 1
     simp [List.map_map,Function.comp_def]
end
theorem OwnS.keepP {w w' :World} {base B:Nat} {p:Option Nat} {ao:Option Addr} {cap:Nat} {l:List St} (h:OwnS w base ao cap l) (hx:Ex B p w w') (hB:w.heap.size≤B) (hp:∀q,p=some q→q < base):OwnS w' base ao cap l:=by
 obtain⟨xs,e,h1,h2⟩:=h
 exact⟨xs,e,h1.keep hx hB hp,fun x hxx=>(h2 x hxx).keep fun b hb hlt=>hx.block b (by omega) (fun e=>by have:=hp b e.symm;omega)⟩
theorem dVal_nat {d:List Int} {n:Int} (h:1≤n):∃k:Nat,dVal d n=k∧(k:Int) < n:=by
 obtain⟨h1,h2⟩:=dVal_bd (d:=d) h
 exact⟨(dVal d n).toNat,by omega,by omega⟩
set_option maxHeartbeats 400000 in
theorem ofD_any (N p:Nat) (d:List Int) (v:Value) (xs:List Int) (w:World) (hd:DiceAt N w p d) (hv:IntsO p w v xs) (h1:1≤xs.length) (hm:xs.length≤100000) :
 Calls Tryz.prog 27 #[.pointer (some ⟨p,0,none⟩),v] w fun e w'=>e=.returned (.int .i64 (xs.getD (dVal d xs.length).toNat 0))∧DiceAt N w' p d.tail∧Ex w.heap.size (some p) w w':=by
 obtain⟨ao,cap,rfl,hx,haw⟩:=hv
 obtain⟨k,hk,hkl⟩:=dVal_nat (d:=d) (n:=xs.length) (by omega)
 have HK:Hid ((dVal d xs.length).toNat=k):=(show _=_ by rw [hk];simp)
 have hkl' :k < xs.length:=by omega
 have HX:=Lib.hid hx
 have HA:=Lib.hid haw
 have HD:=Lib.hid hd
 clear hx haw hd
 go_enter Tryz.func27,Tryz.ntmps27
 go_wp2_with fail
 refine(next_any N p d xs.length w HD.out (by omega)).mono ?_
 rw [hk]
 clear hk
 rintro e w1 ⟨rfl,hd1,hex1⟩
 obtain⟨b,off,y,rfl,hc,HY⟩:=(HX.out.keep hex1 (Nat.le_refl _) (fun q hq hne=>by cases hq;exact HA.out hne)).get k hkl'
 have HD1:=Lib.hid hd1
 have HE1:=Lib.hid hex1
 clear hd1 hex1
 go_wp2
 go_ret
 exact⟨by rw [HK.out,HY.out];rfl,HD1.out,HE1.out⟩
theorem OwnS.lowerS {w:World} {base base' :Nat} {ao:Option Addr} {cap:Nat} {l:List St} (h:OwnS w base ao cap l) (hb:base'≤base):OwnS w base' ao cap l:=by
 obtain⟨xs,e,h1,h2⟩:=h
 exact⟨xs,e,h1.lowerE hb,fun x hx=>(h2 x hx).mono fun b hb2 _=>⟨Nat.le_trans hb hb2.1,hb2.2⟩⟩
set_option maxHeartbeats 8000000 in
set_option maxRecDepth 100000 in
theorem copy05_any {P:Nat→Prop} (ao:Option Addr) (n cap:Nat) (l:List St) (w:World) (hn:l.length=n) (hx:SlAt stRep P w ao l) (hm:l.length≤100000) (hl:LightL 1000000 l) :
 Calls Tryz.prog 79 #[.agg #[.slice ao n cap]] w fun e w'=>∃ro rc,e=.returned (.agg #[.slice ro n rc])∧OwnS w' w.heap.size ro rc l∧Ex w.heap.size none w w':=by
 have HN:=Lib.hid hn
 have HX:=Lib.hid hx
 have HL:=Lib.hid hl
 clear hn hx hl
 go_enter Tryz.func79,Tryz.ntmps79
 go_upto_region 1 with(fail)
 obtain⟨ws,hws⟩:∃ws:World,ws= (w.alloc (.cells #[.slice ao n cap] 29)).alloc (.cells #[.slice none 0 0] 29):=⟨_,rfl⟩
 have HEs:Hid (Ex w.heap.size none w ws):=Lib.hid (by rw [hws];exact(Ex.new w _).alloc (by simp) _)
 have HBs:Hid (ws.heap[w.heap.size]? =some (.cells #[.slice ao n cap] 29 (0,0))∧ws.heap[w.heap.size+1]? =some (.cells #[.slice none 0 0] 29 (0,0))):=Lib.hid (by rw [hws];exact⟨heap_alloc2_old _ _ _,heap_alloc2_new _ _ _⟩)
 have hzs:ws.heap.size=w.heap.size+1+1:=by rw [hws];simp
 rw [←hws]
 clear hws
 have b0:ws.cell? ⟨w.heap.size,0,none⟩=some (.slice ao n cap):=box_cell HBs.out.1
 go_wp2_with (first
  | (go_at_call 109
     refine(copyList_any (P:=P) (.slice ao n cap) l ws ⟨ao,cap,by rw [HN.out],HX.out.keep (by decide) fun b _ hb=>HEs.out.block b hb (by simp)⟩ hm HL.out).mono ?_
     rw [HN.out]
     rintro e w1 ⟨ro,rc,rfl,hown,hex⟩
     have HO:Hid (OwnS w1 ws.heap.size ro rc l):=Lib.hid hown
     have HE1:Hid (Ex w.heap.size none w w1):=Lib.hid (HEs.out.trans hex (by omega) (by simp))
     have HK1:Hid (w1.heap[w.heap.size+1]? =some (.cells #[.slice none 0 0] 29 (0,0))):=Lib.hid ((hex.block _ (by omega) (by simp)).trans HBs.out.2)
     have b2:w1.cell? ⟨w.heap.size+1,0,none⟩=some (.slice none 0 0):=box_cell HK1.out
     have z2:w1.frozen? ⟨w.heap.size+1,0,none⟩=false:=frozen_of_row _ _ _ _ _ HK1.out
     clear hown hex b0)
  | fail)
 refine bodyPost_ret (v:=.agg #[.slice ro n rc]) (by simp [results,Tryz.results79,go_sem,b2]) rfl ?_
 exact⟨_,_,rfl,(HO.out.keepP (p:=some (w.heap.size+1)) ((Ex.refl w1.heap.size (some (w.heap.size+1)) w1).setCell _ _ _ (.inl rfl)) (Nat.le_refl _) (fun q h=>by cases h;omega)).lowerS (by omega),HE1.out.setCell _ _ _ (.inr (by omega))⟩
def int8 (n:Int):List UInt8:=[by8 (n / 72057594037927936),by8 (n / 281474976710656),by8 (n / 1099511627776),by8 (n / 4294967296),by8 (n / 16777216),by8 (n / 65536),by8 (n / 256),by8 (n)]
theorem int8_len (v:Int): (int8 v).length=8:=rfl
theorem by8_toNat (z:Int): ((by8 z).toNat:Int)=z % 256:=by rw [←by8_wrap,IntKind.wrap_u8]
set_option maxHeartbeats 4000000 in
theorem int02_any {P:Nat→Prop} (v:Value) (xs:List UInt8) (n:Int) (w:World) (hv:Sl byRep P w v xs) (hm:xs.length≤5000000) :
 Calls Tryz.prog 114 #[v,.int .i64 n] w fun e w'=>∃ro rc,e=.returned (.slice ro (xs.length+8) rc)∧OwnB w' w.heap.size ro rc (xs ++ int8 n)∧Ex w.heap.size none w w':=by
 obtain⟨ao,cap,rfl,hx⟩:=hv
 have HX:=Lib.hid (val_cells (by decide) hx)
 have HN:Hid (OwnB w w.heap.size none 0 []):=OwnE.nil _ _ _ _ _
 clear hx
 obtain⟨m,hml⟩:∃m,m=xs.length:=⟨_,rfl⟩
 have HML:=Lib.hid hml
 rw [←hml] at hm ⊢
 clear hml
 go_enter Tryz.func114,Tryz.ntmps114
 go_wp2_with (at_builtin;refine wpList_appE2 rfl (.const (.slice none 0 0)) (.tmp 7) _ 5 (by rfl) Tryz.underlying79 _ 1 1 Tryz.infoB rfl (by decide) (by decide) byE byE_len one_byE w.heap.size none 0 0 [] rfl (by rfl) ao m cap (by rfl) xs HML.out.symm HN.out HX.out (by omega) (Nat.le_refl _) m (by omega) ?_;intro ro rc w1 hown hex _ _)
 have HO:Hid (OwnB w1 w.heap.size ro rc xs):=hown
 have HE:=Lib.hid hex
 clear hown hex
 go_loopw [5,6] (fun v i wr=>∃(k:Nat) (ro:Option Addr) (rc:Nat),k≤8∧i=.int .i64 (7 - (k:Int))∧v=.slice ro (m+k) rc∧OwnB wr w.heap.size ro rc (xs ++ (int8 n).take k)∧Ex w.heap.size none w wr) (fun _ i _=>(intOf i+1).toNat)
 case atStart=>exact⟨0,ro,rc,by omega,rfl,rfl,by simpa using HO.out,HE.out⟩
 case round=>
  obtain⟨k,ro,rc,hk,rfl,rfl,hown,hex⟩:=hrel
  have hsz:=hex.size
  have HO:=Lib.hid hown
  have HE:=Lib.hid hex
  clear hown hex
  rcases(by omega:k=0∨k=1∨k=2∨k=3∨k=4∨k=5∨k=6∨k=7∨k=8) with rfl | rfl | rfl | rfl | rfl | rfl | rfl | rfl | rfl
  · go_wp2_with (at_builtin;refine wpList_appE2 rfl (.tmp 13) (.tmp 20) _ 5 (by rfl) Tryz.underlying79 _ 1 1 Tryz.infoB rfl (by decide) (by decide) byE byE_len one_byE w.heap.size ro rc m (xs ++ (int8 n).take 0) (by rw [List.length_append,←HML.out];rfl) (by rfl) (some ⟨wr.heap.size,0,none⟩) 1 1 (by rfl) [by8 (n / 72057594037927936)] rfl (HO.out.keep (Ex.new wr _) (Nat.le_refl _) (by simp)) (lit_cells (by simp [byE,by8_toNat])) (by omega) (by simp;omega) (m+1) (by omega) ?_;intro ro2 rc2 w1 hown hex _ _)
    have HO2:Hid (OwnB w1 w.heap.size ro2 rc2 (xs ++ (int8 n).take 1)):=by
     have h:OwnB w1 w.heap.size ro2 rc2 (xs ++ (int8 n).take 0 ++ [by8 (n / 72057594037927936)]):=hown
     rw [List.append_assoc] at h;exact h
    have HE2:Hid (Ex w.heap.size none w w1):=(HE.out.trans (Ex.new wr _) hsz (by simp)).trans hex (Nat.le_refl _) (by simp)
    clear hown hex
    go_roundw
    case rel=>exact⟨1,ro2,rc2,by omega,by first | rfl | go_num,rfl,HO2.out,HE2.out⟩
    case measure=>simp [intOf]
  · go_wp2_with (at_builtin;refine wpList_appE2 rfl (.tmp 13) (.tmp 20) _ 5 (by rfl) Tryz.underlying79 _ 1 1 Tryz.infoB rfl (by decide) (by decide) byE byE_len one_byE w.heap.size ro rc (m+1) (xs ++ (int8 n).take 1) (by rw [List.length_append,←HML.out];rfl) (by rfl) (some ⟨wr.heap.size,0,none⟩) 1 1 (by rfl) [by8 (n / 281474976710656)] rfl (HO.out.keep (Ex.new wr _) (Nat.le_refl _) (by simp)) (lit_cells (by simp [byE,by8_toNat])) (by omega) (by simp;omega) (m+2) (by omega) ?_;intro ro2 rc2 w1 hown hex _ _)
    have HO2:Hid (OwnB w1 w.heap.size ro2 rc2 (xs ++ (int8 n).take 2)):=by
     have h:OwnB w1 w.heap.size ro2 rc2 (xs ++ (int8 n).take 1 ++ [by8 (n / 281474976710656)]):=hown
     rw [List.append_assoc] at h;exact h
    have HE2:Hid (Ex w.heap.size none w w1):=(HE.out.trans (Ex.new wr _) hsz (by simp)).trans hex (Nat.le_refl _) (by simp)
    clear hown hex
    go_roundw
    case rel=>exact⟨2,ro2,rc2,by omega,by first | rfl | go_num,rfl,HO2.out,HE2.out⟩
    case measure=>simp [intOf]
  · go_wp2_with (at_builtin;refine wpList_appE2 rfl (.tmp 13) (.tmp 20) _ 5 (by rfl) Tryz.underlying79 _ 1 1 Tryz.infoB rfl (by decide) (by decide) byE byE_len one_byE w.heap.size ro rc (m+2) (xs ++ (int8 n).take 2) (by rw [List.length_append,←HML.out];rfl) (by rfl) (some ⟨wr.heap.size,0,none⟩) 1 1 (by rfl) [by8 (n / 1099511627776)] rfl (HO.out.keep (Ex.new wr _) (Nat.le_refl _) (by simp)) (lit_cells (by simp [byE,by8_toNat])) (by omega) (by simp;omega) (m+3) (by omega) ?_;intro ro2 rc2 w1 hown hex _ _)
    have HO2:Hid (OwnB w1 w.heap.size ro2 rc2 (xs ++ (int8 n).take 3)):=by
     have h:OwnB w1 w.heap.size ro2 rc2 (xs ++ (int8 n).take 2 ++ [by8 (n / 1099511627776)]):=hown
     rw [List.append_assoc] at h;exact h
    have HE2:Hid (Ex w.heap.size none w w1):=(HE.out.trans (Ex.new wr _) hsz (by simp)).trans hex (Nat.le_refl _) (by simp)
    clear hown hex
    go_roundw
    case rel=>exact⟨3,ro2,rc2,by omega,by first | rfl | go_num,rfl,HO2.out,HE2.out⟩
    case measure=>simp [intOf]
  · go_wp2_with (at_builtin;refine wpList_appE2 rfl (.tmp 13) (.tmp 20) _ 5 (by rfl) Tryz.underlying79 _ 1 1 Tryz.infoB rfl (by decide) (by decide) byE byE_len one_byE w.heap.size ro rc (m+3) (xs ++ (int8 n).take 3) (by rw [List.length_append,←HML.out];rfl) (by rfl) (some ⟨wr.heap.size,0,none⟩) 1 1 (by rfl) [by8 (n / 4294967296)] rfl (HO.out.keep (Ex.new wr _) (Nat.le_refl _) (by simp)) (lit_cells (by simp [byE,by8_toNat])) (by omega) (by simp;omega) (m+4) (by omega) ?_;intro ro2 rc2 w1 hown hex _ _)
    have HO2:Hid (OwnB w1 w.heap.size ro2 rc2 (xs ++ (int8 n).take 4)):=by
     have h:OwnB w1 w.heap.size ro2 rc2 (xs ++ (int8 n).take 3 ++ [by8 (n / 4294967296)]):=hown
     rw [List.append_assoc] at h;exact h
    have HE2:Hid (Ex w.heap.size none w w1):=(HE.out.trans (Ex.new wr _) hsz (by simp)).trans hex (Nat.le_refl _) (by simp)
    clear hown hex
    go_roundw
    case rel=>exact⟨4,ro2,rc2,by omega,by first | rfl | go_num,rfl,HO2.out,HE2.out⟩
    case measure=>simp [intOf]
  · go_wp2_with (at_builtin;refine wpList_appE2 rfl (.tmp 13) (.tmp 20) _ 5 (by rfl) Tryz.underlying79 _ 1 1 Tryz.infoB rfl (by decide) (by decide) byE byE_len one_byE w.heap.size ro rc (m+4) (xs ++ (int8 n).take 4) (by rw [List.length_append,←HML.out];rfl) (by rfl) (some ⟨wr.heap.size,0,none⟩) 1 1 (by rfl) [by8 (n / 16777216)] rfl (HO.out.keep (Ex.new wr _) (Nat.le_refl _) (by simp)) (lit_cells (by simp [byE,by8_toNat])) (by omega) (by simp;omega) (m+5) (by omega) ?_;intro ro2 rc2 w1 hown hex _ _)
    have HO2:Hid (OwnB w1 w.heap.size ro2 rc2 (xs ++ (int8 n).take 5)):=by
     have h:OwnB w1 w.heap.size ro2 rc2 (xs ++ (int8 n).take 4 ++ [by8 (n / 16777216)]):=hown
     rw [List.append_assoc] at h;exact h
    have HE2:Hid (Ex w.heap.size none w w1):=(HE.out.trans (Ex.new wr _) hsz (by simp)).trans hex (Nat.le_refl _) (by simp)
    clear hown hex
    go_roundw
    case rel=>exact⟨5,ro2,rc2,by omega,by first | rfl | go_num,rfl,HO2.out,HE2.out⟩
    case measure=>simp [intOf]
  · go_wp2_with (at_builtin;refine wpList_appE2 rfl (.tmp 13) (.tmp 20) _ 5 (by rfl) Tryz.underlying79 _ 1 1 Tryz.infoB rfl (by decide) (by decide) byE byE_len one_byE w.heap.size ro rc (m+5) (xs ++ (int8 n).take 5) (by rw [List.length_append,←HML.out];rfl) (by rfl) (some ⟨wr.heap.size,0,none⟩) 1 1 (by rfl) [by8 (n / 65536)] rfl (HO.out.keep (Ex.new wr _) (Nat.le_refl _) (by simp)) (lit_cells (by simp [byE,by8_toNat])) (by omega) (by simp;omega) (m+6) (by omega) ?_;intro ro2 rc2 w1 hown hex _ _)
    have HO2:Hid (OwnB w1 w.heap.size ro2 rc2 (xs ++ (int8 n).take 6)):=by
     have h:OwnB w1 w.heap.size ro2 rc2 (xs ++ (int8 n).take 5 ++ [by8 (n / 65536)]):=hown
     rw [List.append_assoc] at h;exact h
    have HE2:Hid (Ex w.heap.size none w w1):=(HE.out.trans (Ex.new wr _) hsz (by simp)).trans hex (Nat.le_refl _) (by simp)
    clear hown hex
    go_roundw
    case rel=>exact⟨6,ro2,rc2,by omega,by first | rfl | go_num,rfl,HO2.out,HE2.out⟩
    case measure=>simp [intOf]
  · go_wp2_with (at_builtin;refine wpList_appE2 rfl (.tmp 13) (.tmp 20) _ 5 (by rfl) Tryz.underlying79 _ 1 1 Tryz.infoB rfl (by decide) (by decide) byE byE_len one_byE w.heap.size ro rc (m+6) (xs ++ (int8 n).take 6) (by rw [List.length_append,←HML.out];rfl) (by rfl) (some ⟨wr.heap.size,0,none⟩) 1 1 (by rfl) [by8 (n / 256)] rfl (HO.out.keep (Ex.new wr _) (Nat.le_refl _) (by simp)) (lit_cells (by simp [byE,by8_toNat])) (by omega) (by simp;omega) (m+7) (by omega) ?_;intro ro2 rc2 w1 hown hex _ _)
    have HO2:Hid (OwnB w1 w.heap.size ro2 rc2 (xs ++ (int8 n).take 7)):=by
     have h:OwnB w1 w.heap.size ro2 rc2 (xs ++ (int8 n).take 6 ++ [by8 (n / 256)]):=hown
     rw [List.append_assoc] at h;exact h
    have HE2:Hid (Ex w.heap.size none w w1):=(HE.out.trans (Ex.new wr _) hsz (by simp)).trans hex (Nat.le_refl _) (by simp)
    clear hown hex
    go_roundw
    case rel=>exact⟨7,ro2,rc2,by omega,by first | rfl | go_num,rfl,HO2.out,HE2.out⟩
    case measure=>simp [intOf]
  · go_wp2_with (at_builtin;refine wpList_appE2 rfl (.tmp 13) (.tmp 20) _ 5 (by rfl) Tryz.underlying79 _ 1 1 Tryz.infoB rfl (by decide) (by decide) byE byE_len one_byE w.heap.size ro rc (m+7) (xs ++ (int8 n).take 7) (by rw [List.length_append,←HML.out];rfl) (by rfl) (some ⟨wr.heap.size,0,none⟩) 1 1 (by rfl) [by8 (n)] rfl (HO.out.keep (Ex.new wr _) (Nat.le_refl _) (by simp)) (lit_cells (by simp [byE,by8_toNat])) (by omega) (by simp;omega) (m+8) (by omega) ?_;intro ro2 rc2 w1 hown hex _ _)
    have HO2:Hid (OwnB w1 w.heap.size ro2 rc2 (xs ++ (int8 n).take 8)):=by
     have h:OwnB w1 w.heap.size ro2 rc2 (xs ++ (int8 n).take 7 ++ [by8 (n)]):=hown
     rw [List.append_assoc] at h;exact h
    have HE2:Hid (Ex w.heap.size none w w1):=(HE.out.trans (Ex.new wr _) hsz (by simp)).trans hex (Nat.le_refl _) (by simp)
    clear hown hex
    go_roundw
    case rel=>exact⟨8,ro2,rc2,by omega,by first | rfl | go_num,rfl,HO2.out,HE2.out⟩
    case measure=>simp [intOf]
  · go_wp2
    go_ret
    exact⟨ro,rc,rfl,HO.out,HE.out⟩
theorem OwnB.len {w:World} {base:Nat} {ao:Option Addr} {cap:Nat} {xs:List UInt8} (h:OwnB w base ao cap xs) {v:Value} {n:Nat} (hv:v=.slice ao n cap) (hn:n=xs.length):Sl byRep (fun b=>base≤b) w v xs:=by
 subst hv hn;exact h.sl
set_option maxHeartbeats 1000000 in
theorem text02_any {P:Nat→Prop} (v:Value) (xs:List UInt8) (s:ByteArray) (w:World) (hv:Sl byRep P w v xs) (hm:xs.length≤4000000) (hs:s.size≤1200000) :
 Calls Tryz.prog 113 #[v,.string s] w fun e w'=>∃ro rc,e=.returned (.slice ro (xs.length+8+s.size) rc)∧OwnB w' w.heap.size ro rc (xs ++ int8 s.size ++ strL s)∧Ex w.heap.size none w w':=by
 have HV:=Lib.hid hv
 clear hv
 go_enter Tryz.func113,Tryz.ntmps113
 go_wp2_with fail
 refine(int02_any v xs s.size w HV.out (by omega)).mono ?_
 rintro e w1 ⟨ro,rc,rfl,hown,hex⟩
 have HO:=Lib.hid hown
 have HE:=Lib.hid hex
 have hz:=hex.size
 clear hown hex
 go_wp2_with (at_builtin;refine wpList_appB_str rfl (.tmp 8) (.tmp 9) _ _ (by rfl) Tryz.underlying79 Tryz.underlying9 Tryz.infoB w.heap.size ro rc (xs.length+8) (xs ++ int8 s.size) (by rw [List.length_append];rfl) (by rfl) s (by rfl) HO.out (by omega) hz ?_;intro ro2 rc2 w2 hown2 hex2)
 go_ret
 exact⟨ro2,rc2,rfl,hown2,HE.out.trans hex2 (Nat.le_refl _) (by simp)⟩
def intsB (l:List Int):List UInt8:=l.flatMap int8
theorem intsB_len (l:List Int): (intsB l).length=l.length * 8:=by
 induction l with
 | nil=>rfl
 | cons x r ih=>simp only [intsB,List.flatMap_cons,List.length_append,int8_len,List.length_cons] at *;omega
set_option maxHeartbeats 1000000 in
theorem ints02_any {P:Nat→Prop} (v u:Value) (xs:List UInt8) (l:List Int) (w:World) (hv:Sl byRep P w v xs) (hu:Ints w u l) (hm:xs.length≤3000000) (hl:l.length≤100000) :
 Calls Tryz.prog 115 #[v,u] w fun e w'=>∃ro rc,e=.returned (.slice ro (xs.length+8+l.length * 8) rc)∧OwnB w' w.heap.size ro rc (xs ++ int8 l.length ++ intsB l)∧Ex w.heap.size none w w':=by
 obtain⟨ao,cap,rfl,hx⟩:=hu
 have HV:=Lib.hid hv
 have HX:=Lib.hid hx
 clear hv hx
 go_enter Tryz.func115,Tryz.ntmps115
 go_wp2_with fail
 refine(int02_any v xs l.length w HV.out (by omega)).mono ?_
 rintro e w1 ⟨ro,rc,rfl,hown,hex⟩
 have HO:=Lib.hid hown
 have HE:=Lib.hid hex
 clear hown hex
 go_wp2_with fail
 go_loopw [5,6] (fun v i wr=>∃(k:Nat) (ro:Option Addr) (rc:Nat),k≤l.length∧i=.int .i64 k∧v=.slice ro (xs.length+8+k * 8) rc∧OwnB wr w.heap.size ro rc (xs ++ int8 l.length ++ intsB (l.take k))∧Ex w.heap.size none w wr) (fun _ i _=>l.length - (intOf i).toNat)
 case atStart=>exact⟨0,ro,rc,by omega,rfl,by rw [Nat.zero_mul,Nat.add_zero],by simpa [intsB] using HO.out,HE.out⟩
 case round=>
  obtain⟨k,ro,rc,hk,rfl,rfl,hown,hex⟩:=hrel
  have hsz:=hex.size
  by_cases hlt:k < l.length
  · obtain⟨b,off,y,rfl,hc,HY⟩:=(HX.out.keep hex (Nat.le_refl _) (by simp)).get k hlt
    have HK:Hid (intsB (l.take (k+1))=intsB (l.take k) ++ int8 y):=(show _=_ by
     have h:=HY.out
     rw [List.getD_eq_getElem?_getD,List.getElem?_eq_getElem hlt] at h
     simp only [Option.getD_some] at h
     rw [List.take_add_one,List.getElem?_eq_getElem hlt,h]
     simp [intsB])
    have HTL:Hid ((intsB (l.take k)).length=k * 8):=(show _=_ by rw [intsB_len];simp;omega)
    have HL:Hid ((xs ++ int8 l.length ++ intsB (l.take k)).length=xs.length+8+k * 8):=(show _=_ by rw [List.length_append,List.length_append,HTL.out,int8_len])
    have HO:=Lib.hid hown
    have HE:=Lib.hid hex
    clear hown hex
    go_wp2_with fail
    refine(int02_any _ (xs ++ int8 l.length ++ intsB (l.take k)) y _ (HO.out.len rfl HL.out.symm) (by rw [HL.out];omega)).mono ?_
    rw [HL.out]
    rintro e w2 ⟨ro2,rc2,rfl,hown2,hex2⟩
    have HO2:Hid (OwnB w2 wr.heap.size ro2 rc2 (xs ++ int8 l.length ++ intsB (l.take k) ++ int8 y)):=hown2
    have HE2:=Lib.hid hex2
    clear hown2 hex2
    go_wp2
    go_roundw
    case rel=>exact⟨k+1,ro2,rc2,by omega,by go_num,by rw [Nat.add_mul];rfl,by rw [HK.out,←List.append_assoc];exact(show OwnE _ _ _ _ _ _ _ _ from HO2.out).lowerE hsz,HE.out.trans HE2.out hsz (by simp)⟩
    case measure=>simp [intOf] <;> omega
  · obtain rfl:k=l.length:=by omega
    rw [List.take_length] at hown
    go_wp2
    go_ret
    exact⟨ro,rc,rfl,hown,hex⟩
def ByV (w:World) (base:Nat) (v:Value) (xs:List UInt8):Prop:=∃ro rc,v=.slice ro xs.length rc∧OwnB w base ro rc xs
theorem ByV.sl {w:World} {base:Nat} {v:Value} {xs:List UInt8} (h:ByV w base v xs):Sl byRep (fun b=>base≤b) w v xs:=by
 obtain⟨ro,rc,rfl,h⟩:=h
 exact h.sl
theorem ByV.lower {w:World} {base base' :Nat} {v:Value} {xs:List UInt8} (h:ByV w base v xs) (hb:base'≤base):ByV w base' v xs:=by
 obtain⟨ro,rc,e,h⟩:=h
 exact⟨ro,rc,e,OwnE.lowerE h hb⟩
theorem ByV.keep {w w' :World} {base B:Nat} {v:Value} {xs:List UInt8} (h:ByV w base v xs) (hx:Ex B none w w') (hB:w.heap.size≤B):ByV w' base v xs:=by
 obtain⟨ro,rc,e,h⟩:=h
 exact⟨ro,rc,e,OwnE.keep h hx hB (by simp)⟩
theorem int02_v {P:Nat→Prop} (v:Value) (xs:List UInt8) (n:Int) (w:World) (hv:Sl byRep P w v xs) (hm:xs.length≤5000000) :
 Calls Tryz.prog 114 #[v,.int .i64 n] w fun e w'=>∃u,e=.returned u∧ByV w' w.heap.size u (xs ++ int8 n)∧Ex w.heap.size none w w' :=
 (int02_any v xs n w hv hm).mono fun e w' ⟨ro,rc,h1,h2,h3⟩=>⟨_,h1,⟨ro,rc,by rw [List.length_append];rfl,h2⟩,h3⟩
theorem text02_v {P:Nat→Prop} (v:Value) (xs:List UInt8) (s:ByteArray) (w:World) (hv:Sl byRep P w v xs) (hm:xs.length≤4000000) (hs:s.size≤1200000) :
 Calls Tryz.prog 113 #[v,.string s] w fun e w'=>∃u,e=.returned u∧ByV w' w.heap.size u (xs ++ int8 s.size ++ strL s)∧Ex w.heap.size none w w' :=
 (text02_any v xs s w hv hm hs).mono fun e w' ⟨ro,rc,h1,h2,h3⟩=>⟨_,h1,⟨ro,rc,by rw [List.length_append,List.length_append,strL_len];rfl,h2⟩,h3⟩
theorem ints02_v {P:Nat→Prop} (v u:Value) (xs:List UInt8) (l:List Int) (w:World) (hv:Sl byRep P w v xs) (hu:Ints w u l) (hm:xs.length≤3000000) (hl:l.length≤100000) :
 Calls Tryz.prog 115 #[v,u] w fun e w'=>∃u,e=.returned u∧ByV w' w.heap.size u (xs ++ int8 l.length ++ intsB l)∧Ex w.heap.size none w w' :=
 (ints02_any v u xs l w hv hu hm hl).mono fun e w' ⟨ro,rc,h1,h2,h3⟩=>⟨_,h1,⟨ro,rc,by rw [List.length_append,List.length_append,intsB_len];rfl,h2⟩,h3⟩
def turnU (x:UInt32) (n:Nat):UInt32:=(x >>> UInt32.ofNat n) ||| (x <<< UInt32.ofNat (32 - n))
def wordU (b:List UInt8) (i:Nat):UInt32:=((((b.getD (4 * i) 0).toUInt32 <<< 24) ||| ((b.getD (4 * i+1) 0).toUInt32 <<< 16)) ||| ((b.getD (4 * i+2) 0).toUInt32 <<< 8)) ||| (b.getD (4 * i+3) 0).toUInt32
def schedA (w:List UInt32) (i:Nat):UInt32:=(turnU (w.getD (i - 15) 0) 7 ^^^ turnU (w.getD (i - 15) 0) 18) ^^^ (w.getD (i - 15) 0 >>> 3)
def schedC (w:List UInt32) (i:Nat):UInt32:=(turnU (w.getD (i - 2) 0) 17 ^^^ turnU (w.getD (i - 2) 0) 19) ^^^ (w.getD (i - 2) 0 >>> 10)
def schedU (w:List UInt32) (i:Nat):UInt32:=((w.getD (i - 16) 0+schedA w i)+w.getD (i - 7) 0)+schedC w i
def sched (b:List UInt8):Nat→List UInt32
 | 0=>[]
 | n+1=>sched b n ++ [if n < 16 then wordU b n else schedU (sched b n) n]
theorem sched_len (b:List UInt8):∀n,(sched b n).length=n
 | 0=>rfl
 | n+1=>by simp [sched,sched_len b n]
def rS (v:List UInt32):UInt32:=(turnU (v.getD 4 0) 6 ^^^ turnU (v.getD 4 0) 11) ^^^ turnU (v.getD 4 0) 25
def rC (v:List UInt32):UInt32:=(v.getD 4 0 &&& v.getD 5 0) ^^^ ((~~~(v.getD 4 0)) &&& v.getD 6 0)
def rX (v:List UInt32) (k w:UInt32):UInt32:=(((v.getD 7 0+rS v)+rC v)+k)+w
def rT (v:List UInt32):UInt32:=(turnU (v.getD 0 0) 2 ^^^ turnU (v.getD 0 0) 13) ^^^ turnU (v.getD 0 0) 22
def rM (v:List UInt32):UInt32:=((v.getD 0 0 &&& v.getD 1 0) ^^^ (v.getD 0 0 &&& v.getD 2 0)) ^^^ (v.getD 1 0 &&& v.getD 2 0)
def roundU (v:List UInt32) (k w:UInt32):List UInt32:=[(rX v k w+rT v)+rM v,v.getD 0 0,v.getD 1 0,v.getD 2 0,v.getD 3 0+rX v k w,v.getD 4 0,v.getD 5 0,v.getD 6 0]
def rounds (ks ws:List UInt32) (h:List UInt32):Nat→List UInt32
 | 0=>h
 | n+1=>roundU (rounds ks ws h n) (ks.getD n 0) (ws.getD n 0)
theorem rounds_len (ks ws h:List UInt32) (hh:h.length=8):∀n,(rounds ks ws h n).length=8
 | 0=>hh
 | _n+1=>rfl
def addTo (v h:List UInt32) (n:Nat):List UInt32:=(List.range v.length).map fun i=>if i < n then v.getD i 0+h.getD i 0 else v.getD i 0
def blockU (h:List UInt32) (b:List UInt8) (ks:List UInt32):List UInt32:=addTo (rounds ks (sched b 64) h 64) h 8
def constU:List UInt32:=[0x428a2f98,0x71374491,0xb5c0fbcf,0xe9b5dba5,0x3956c25b,0x59f111f1,0x923f82a4,0xab1c5ed5,
 0xd807aa98,0x12835b01,0x243185be,0x550c7dc3,0x72be5d74,0x80deb1fe,0x9bdc06a7,0xc19bf174,
 0xe49b69c1,0xefbe4786,0x0fc19dc6,0x240ca1cc,0x2de92c6f,0x4a7484aa,0x5cb0a9dc,0x76f988da,
 0x983e5152,0xa831c66d,0xb00327c8,0xbf597fc7,0xc6e00bf3,0xd5a79147,0x06ca6351,0x14292967,
 0x27b70a85,0x2e1b2138,0x4d2c6dfc,0x53380d13,0x650a7354,0x766a0abb,0x81c2c92e,0x92722c85,
 0xa2bfe8a1,0xa81a664b,0xc24b8b70,0xc76c51a3,0xd192e819,0xd6990624,0xf40e3585,0x106aa070,
 0x19a4c116,0x1e376c08,0x2748774c,0x34b0bcb5,0x391c0cb3,0x4ed8aa4a,0x5b9cca4f,0x682e6ff3,
 0x748f82ee,0x78a5636f,0x84c87814,0x8cc70208,0x90befffa,0xa4506ceb,0xbef9a3f7,0xc67178f2]
def startU:List UInt32:=[0x6a09e667,0xbb67ae85,0x3c6ef372,0xa54ff53a,0x510e527f,0x9b05688c,0x1f83d9ab,0x5be0cd19]
def padN (n:Nat):Nat:=(56+64 - n % 64) % 64
theorem padN_spec (n:Nat): (n+padN n) % 64=56∧∀j,j < padN n→(n+j) % 64≠56:=by
 unfold padN
 refine⟨by omega,fun j hj=>by omega⟩
def len8 (n:Nat):List UInt8:=int8 ((n:Int) * 8)
theorem len8_len (n:Nat): (len8 n).length=8:=rfl
def padded (b:List UInt8):List UInt8:=b ++ [128] ++ List.replicate (padN (b.length+1)) 0 ++ len8 b.length
theorem padded_mod (b:List UInt8): (padded b).length % 64=0:=by
 have:=(padN_spec (b.length+1)).1
 simp only [padded,List.length_append,List.length_replicate,len8_len,List.length_cons,List.length_nil]
 omega
def blocks (m:List UInt8):Nat→List UInt32
 | 0=>startU
 | n+1=>blockU (blocks m n) ((m.drop (64 * n)).take 64) constU
theorem addTo_len (v h:List UInt32) (n:Nat): (addTo v h n).length=v.length:=by simp [addTo]
theorem blockU_len (h:List UInt32) (b:List UInt8) (ks:List UInt32) (hh:h.length=8): (blockU h b ks).length=8:=by rw [blockU,addTo_len,rounds_len _ _ _ hh]
theorem blocks_len (m:List UInt8):∀n,(blocks m n).length=8
 | 0=>rfl
 | n+1=>blockU_len _ _ _ (blocks_len m n)
def bytesU (x:UInt32):List UInt8:=[(x >>> 24).toUInt8,(x >>> 16).toUInt8,(x >>> 8).toUInt8,x.toUInt8]
def outTo (h:List UInt32) (n:Nat):List UInt8:=(h.take n).flatMap bytesU
def sha (b:List UInt8):ByteArray:=strOf (outTo (blocks (padded b) ((padded b).length / 64)) 8)
theorem outTo_len (h:List UInt32) (n:Nat) (hn:n≤h.length): (outTo h n).length=4 * n:=by
 unfold outTo
 induction n with
 | zero=>simp
 | succ n ih=>
   rw [List.take_add_one,List.getElem?_eq_getElem (by omega),List.flatMap_append,List.length_append,ih (by omega)]
   simp [bytesU];omega
theorem sha_size (b:List UInt8): (sha b).size=32:=by
 unfold sha
 rw [strOf_size,outTo_len _ _ (by rw [blocks_len];omega)]
def wdE (x:UInt32):List Value:=[.int .u32 x.toNat]
theorem wdE_len (x:UInt32): (wdE x).length=1:=rfl
theorem one_wdE:∀b,∀v∈wdE b,v.oneCell' =true:=fun b v hv=>by simp [wdE] at hv;subst hv;rfl
def wdRep:Rep UInt32:=valRep wdE 1 wdE_len one_wdE
theorem Tryz.infoW: (Tryz.prog.info? 143).map (fun i=>(i.zero,i.size,i.bytes))=some (some (.int .u32 0),1,4):=by kernel_rfl
theorem flat_wdE (xs:List UInt32):flatL wdE xs=xs.map fun b=>.int .u32 b.toNat:=by
 induction xs with
 | nil=>rfl
 | cons x r ih=>simp only [flatL,List.flatMap_cons,List.map_cons] at *;rw [ih];rfl
theorem wd_get {P:Nat→Prop} {w:World} {ao:Option Addr} {xs:List UInt32} (h:SlAt wdRep P w ao xs) (i:Nat) (hi:i < xs.length):∃b off,ao=some ⟨b,off,none⟩∧P b∧b < w.heap.size∧w.cell? ⟨b,off+i,none⟩=some (.int .u32 (xs[i]).toNat):=by
 obtain⟨b,off,cs,e,hp,hr,hR⟩:=h i hi
 have:=hr 0 (.int .u32 (xs[i]).toNat) (by rw [show cs=_ from hR];rfl)
 rw [show off+i * wdRep.k+0=off+i by simp [wdRep,valRep]] at this
 exact⟨b,off,e,hp,World.block_lt_of_cell? w _ this,this⟩
theorem u_xor (x y:UInt32):bits .xor .u32 (x.toNat:Int) (y.toNat:Int)= ((x ^^^ y).toNat:Int):=by rw [u32_xor_nat _ _ x.toNat_lt y.toNat_lt,UInt32.toNat_xor]
theorem u_or (x y:UInt32):bits .or .u32 (x.toNat:Int) (y.toNat:Int)= ((x ||| y).toNat:Int):=by rw [u32_or_nat _ _ x.toNat_lt y.toNat_lt,UInt32.toNat_or]
theorem u_and (x y:UInt32):bits .and .u32 (x.toNat:Int) (y.toNat:Int)= ((x &&& y).toNat:Int):=by rw [u32_and_nat _ _ x.toNat_lt y.toNat_lt,UInt32.toNat_and]
theorem u_not (x:UInt32):bits .xor .u32 4294967295 (x.toNat:Int)= ((~~~x).toNat:Int):=by
 have h:=u_xor 4294967295 x
 have e: (4294967295:UInt32) ^^^ x = ~~~x:=by
  apply UInt32.toBitVec_inj.1
  simp only [UInt32.toBitVec_xor,UInt32.toBitVec_not]
  exact BitVec.allOnes_xor
 rw [e] at h
 exact h
theorem u_add (x y:UInt32):IntKind.u32.wrap ((x.toNat:Int)+ (y.toNat:Int))= ((x+y).toNat:Int):=by
 rw [IntKind.wrap_u32,UInt32.toNat_add]
 omega
theorem u_add' (x y:UInt32): ((x.toNat:Int)+ (y.toNat:Int)) % 4294967296= ((x+y).toNat:Int):=by rw [←u_add,IntKind.wrap_u32]
theorem u_shr (x:UInt32) (n:Nat) (hn:n < 32): (x.toNat:Int) / 2 ^ n= ((x >>> UInt32.ofNat n).toNat:Int):=by
 rw [UInt32.toNat_shiftRight,UInt32.toNat_ofNat',Nat.shiftRight_eq_div_pow,Nat.mod_eq_of_lt (show n < 2 ^ 32 by omega),Nat.mod_eq_of_lt hn,Int.natCast_ediv,Int.natCast_pow]
 rfl
theorem u_shl (x:UInt32) (n:Nat) (hn:n < 32): (x.toNat:Int) * 2 ^ n % 4294967296= ((x <<< UInt32.ofNat n).toNat:Int):=by
 rw [UInt32.toNat_shiftLeft,UInt32.toNat_ofNat',Nat.shiftLeft_eq,Nat.mod_eq_of_lt (show n < 2 ^ 32 by omega),Nat.mod_eq_of_lt hn,Int.natCast_emod,Int.natCast_mul,Int.natCast_pow]
 rfl
def xorU (x y:UInt32):UInt32:=x ^^^ y
def andU (x y:UInt32):UInt32:=x &&& y
def orU (x y:UInt32):UInt32:=x ||| y
def notU (x:UInt32):UInt32:= ~~~x
def addU (x y:UInt32):UInt32:=x+y
def shrU (x:UInt32) (n:Nat):UInt32:=x >>> UInt32.ofNat n
theorem r_xor (x y:UInt32):bits .xor .u32 (x.toNat:Int) (y.toNat:Int)= ((xorU x y).toNat:Int):=u_xor x y
theorem r_and (x y:UInt32):bits .and .u32 (x.toNat:Int) (y.toNat:Int)= ((andU x y).toNat:Int):=u_and x y
theorem r_not (x:UInt32):bits .xor .u32 IntKind.u32.max (x.toNat:Int)= ((notU x).toNat:Int):=by
 rw [show IntKind.u32.max=4294967295 by decide];exact u_not x
theorem r_add (x y:UInt32):IntKind.u32.wrap ((x.toNat:Int)+ (y.toNat:Int))= ((addU x y).toNat:Int):=u_add x y
theorem r_add' (x y:UInt32): ((x.toNat:Int)+ (y.toNat:Int)) % 4294967296= ((addU x y).toNat:Int):=u_add' x y
theorem r_shr3 (x:UInt32): (x.toNat:Int) / 8= ((shrU x 3).toNat:Int):=u_shr x 3 (by omega)
theorem r_shr10 (x:UInt32): (x.toNat:Int) / 1024= ((shrU x 10).toNat:Int):=u_shr x 10 (by omega)
theorem u_turn (x:UInt32) (n:Nat) (h1:1≤n) (h2:n≤31):bits .or .u32 ((x.toNat:Int) / 2 ^ n) ((x.toNat:Int) * 2 ^ (32 - n) % 4294967296)= ((turnU x n).toNat:Int):=by
 rw [u_shr x n (by omega),u_shl x (32 - n) (by omega),u_or]
 rfl
set_option maxHeartbeats 1000000 in
theorem turn01_any (x:UInt32) (n:Nat) (h1:1≤n) (h2:n≤31) (w:World):Calls Tryz.prog 138 #[.int .u32 x.toNat,.int .u64 n] w fun e w'=>e=.returned (.int .u32 (turnU x n).toNat)∧w=w':=by
 go_enter Tryz.func138,Tryz.ntmps138
 go_wp2
 go_ret
 exact⟨by rw [u_turn x n h1 h2];rfl,rfl⟩
theorem turnZ_any (x:UInt32) (z:Int) (h1:1≤z) (h2:z≤31) (w:World):Calls Tryz.prog 138 #[.int .u32 x.toNat,.int .u64 z] w fun e w'=>e=.returned (.int .u32 (turnU x z.toNat).toNat)∧w=w':=by
 have:=turn01_any x z.toNat (by omega) (by omega) w
 rwa [show((z.toNat:Nat):Int)=z by omega] at this
set_option maxHeartbeats 1000000 in
theorem const01_any (w:World):Calls Tryz.prog 111 #[] w fun e w'=>e=.returned (.slice (some ⟨w.heap.size,0,none⟩) 64 64)∧SlAt wdRep (fun b=>w.heap.size≤b) w' (some ⟨w.heap.size,0,none⟩) constU∧Ex w.heap.size none w w':=by
 go_enter Tryz.func111,Tryz.ntmps111
 go_wp2
 go_ret
 exact⟨rfl,val_sl (Nat.le_refl _) (holdsK_flat wdE_len (fun j v hv=>by rw [Nat.zero_add,cell_of_row _ _ _ _ _ _ (heap_alloc_new w _)];rw [flat_wdE] at hv;simpa [constU] using hv) (fun j hj=>by rw [Nat.zero_add];unfold World.frozen?;rw [heap_alloc_new];simp)),Ex.new _ _⟩
theorem sl_none {α:Type} {r:Rep α} {P:Nat→Prop} {w:World} {xs:List α} (h:SlAt r P w none xs):xs=[]:=by
 rcases Nat.eq_zero_or_pos xs.length with h0 | h0
 · exact List.eq_nil_of_length_eq_zero h0
 · obtain⟨b,off,_,e,_⟩:=h 0 h0
   cases e
set_option maxHeartbeats 1000000 in
theorem cloneBytes_any {P:Nat→Prop} (v:Value) (xs:List UInt8) (w:World) (hv:Sl byRep P w v xs) (hm:xs.length≤5000000) :
 Calls Tryz.prog 163 #[v] w fun e w'=>∃ro rc,e=.returned (.slice ro xs.length rc)∧OwnB w' w.heap.size ro rc xs∧Ex w.heap.size none w w':=by
 have q:∀(w:World) (a:Option Addr) (n c n' c' :Nat),(binOp .eql 79 (.slice a n c) (.slice none n' c')).run Tryz.prog w=.ok (.bool a.isNone) w:=fun w a n c n' c'=>Lib.run_eql_slice_nil w _ _ a n c n' c' Tryz.underlying79
 obtain⟨ao,cap,rfl,hx⟩:=hv
 cases ao with
 | none=>
   obtain rfl:=sl_none hx
   go_enter Tryz.func163,Tryz.ntmps163
   go_wp2
   go_ret
   exact⟨none,0,rfl,OwnE.nil _ _ _ _ _,Ex.refl _ _ _⟩
 | some ad=>
   have HX:=Lib.hid (val_cells (by decide) (hx.keep (w':=w.alloc (.cells #[] 5)) (by decide) (fun q _ hq=>(Ex.new w _).block q hq (by simp))))
   have HN:Hid (OwnB (w.alloc (.cells #[] 5)) w.heap.size (some ⟨w.heap.size,0,none⟩) 0 []):=World.ownsRow_lit w #[] 0 (Nat.le_refl _) (by decide) rfl
   clear hx
   go_enter Tryz.func163,Tryz.ntmps163
   go_wp2_with (at_builtin;refine wpList_appE2 rfl (.tmp 5) (.tmp 6) _ 5 (by rfl) Tryz.underlying79 _ 1 1 Tryz.infoB rfl (by decide) (by decide) byE byE_len one_byE w.heap.size (some ⟨w.heap.size,0,none⟩) 0 0 [] rfl (by rfl) (some ad) xs.length cap (by rfl) xs rfl HN.out HX.out (by omega) (by simp) xs.length (by omega) ?_;intro ro rc w1 hown hex _ _)
   go_ret
   exact⟨ro,rc,rfl,hown,(Ex.new w (.cells #[] 5)).trans hex (Nat.le_refl _) (by simp)⟩
set_option maxHeartbeats 4000000 in
theorem put_any (base:Nat) (ao:Option Addr) (cap:Nat) (xs:List UInt8) (n:Int) (w:World) (hown:OwnB w base ao cap xs) (hbase:base≤w.heap.size) (hm:xs.length≤5000000) :
 Calls Tryz.prog 162 #[.slice ao xs.length cap,.int .i64 n] w fun e w'=>∃ro rc,e=.returned (.slice ro (xs.length+8) rc)∧OwnB w' base ro rc (xs ++ int8 n)∧Ex base none w w':=by
 have HO0:=Lib.hid hown
 clear hown
 obtain⟨m,hml⟩:∃m,m=xs.length:=⟨_,rfl⟩
 have HML:=Lib.hid hml
 rw [←hml] at hm ⊢
 clear hml
 go_enter Tryz.func162,Tryz.ntmps162
 go_wp2_with fail
 go_loopw [0,5] (fun v i wr=>∃(k:Nat) (ro:Option Addr) (rc:Nat),k≤8∧i=.int .i64 (56 - 8 * (k:Int))∧v=.slice ro (m+k) rc∧base≤wr.heap.size∧OwnB wr base ro rc (xs ++ (int8 n).take k)∧Ex base none w wr) (fun _ i _=>(intOf i+8).toNat)
 case atStart=>exact⟨0,ao,cap,by omega,rfl,rfl,hbase,by simpa using HO0.out,Ex.refl _ _ _⟩
 case round=>
  obtain⟨k,ro,rc,hk,rfl,rfl,hsz,hown,hex⟩:=hrel
  have HO:=Lib.hid hown
  have HE:=Lib.hid hex
  clear hown hex
  rcases(by omega:k=0∨k=1∨k=2∨k=3∨k=4∨k=5∨k=6∨k=7∨k=8) with rfl | rfl | rfl | rfl | rfl | rfl | rfl | rfl | rfl
  · go_wp2_with (at_builtin;refine wpList_appE2 rfl (.tmp 10) (.tmp 17) _ 5 (by rfl) Tryz.underlying79 _ 1 1 Tryz.infoB rfl (by decide) (by decide) byE byE_len one_byE base ro rc m (xs ++ (int8 n).take 0) (by rw [List.length_append,←HML.out];rfl) (by rfl) (some ⟨wr.heap.size,0,none⟩) 1 1 (by rfl) [by8 (n / 72057594037927936)] rfl (HO.out.keep (Ex.new wr _) (Nat.le_refl _) (by simp)) (lit_cells (by simp [byE,by8_toNat,IntKind.wrap_u64] <;> omega)) (by omega) (by simp;omega) (m+1) (by omega) ?_;intro ro2 rc2 w1 hown hex _ _)
    have HO2:Hid (OwnB w1 base ro2 rc2 (xs ++ (int8 n).take 1)):=by
     have h:OwnB w1 base ro2 rc2 (xs ++ (int8 n).take 0 ++ [by8 (n / 72057594037927936)]):=hown
     rw [List.append_assoc] at h;exact h
    have HE2:Hid (Ex base none w w1):=(HE.out.trans (Ex.new wr _) (by omega) (by simp)).trans hex (Nat.le_refl _) (by simp)
    have hz2:base≤w1.heap.size:=by have:=HE2.out.size;omega
    clear hown hex
    go_roundw
    case rel=>exact⟨1,ro2,rc2,by omega,by first | rfl | go_num,rfl,hz2,HO2.out,HE2.out⟩
    case measure=>simp [intOf]
  · go_wp2_with (at_builtin;refine wpList_appE2 rfl (.tmp 10) (.tmp 17) _ 5 (by rfl) Tryz.underlying79 _ 1 1 Tryz.infoB rfl (by decide) (by decide) byE byE_len one_byE base ro rc (m+1) (xs ++ (int8 n).take 1) (by rw [List.length_append,←HML.out];rfl) (by rfl) (some ⟨wr.heap.size,0,none⟩) 1 1 (by rfl) [by8 (n / 281474976710656)] rfl (HO.out.keep (Ex.new wr _) (Nat.le_refl _) (by simp)) (lit_cells (by simp [byE,by8_toNat,IntKind.wrap_u64] <;> omega)) (by omega) (by simp;omega) (m+2) (by omega) ?_;intro ro2 rc2 w1 hown hex _ _)
    have HO2:Hid (OwnB w1 base ro2 rc2 (xs ++ (int8 n).take 2)):=by
     have h:OwnB w1 base ro2 rc2 (xs ++ (int8 n).take 1 ++ [by8 (n / 281474976710656)]):=hown
     rw [List.append_assoc] at h;exact h
    have HE2:Hid (Ex base none w w1):=(HE.out.trans (Ex.new wr _) (by omega) (by simp)).trans hex (Nat.le_refl _) (by simp)
    have hz2:base≤w1.heap.size:=by have:=HE2.out.size;omega
    clear hown hex
    go_roundw
    case rel=>exact⟨2,ro2,rc2,by omega,by first | rfl | go_num,rfl,hz2,HO2.out,HE2.out⟩
    case measure=>simp [intOf]
  · go_wp2_with (at_builtin;refine wpList_appE2 rfl (.tmp 10) (.tmp 17) _ 5 (by rfl) Tryz.underlying79 _ 1 1 Tryz.infoB rfl (by decide) (by decide) byE byE_len one_byE base ro rc (m+2) (xs ++ (int8 n).take 2) (by rw [List.length_append,←HML.out];rfl) (by rfl) (some ⟨wr.heap.size,0,none⟩) 1 1 (by rfl) [by8 (n / 1099511627776)] rfl (HO.out.keep (Ex.new wr _) (Nat.le_refl _) (by simp)) (lit_cells (by simp [byE,by8_toNat,IntKind.wrap_u64] <;> omega)) (by omega) (by simp;omega) (m+3) (by omega) ?_;intro ro2 rc2 w1 hown hex _ _)
    have HO2:Hid (OwnB w1 base ro2 rc2 (xs ++ (int8 n).take 3)):=by
     have h:OwnB w1 base ro2 rc2 (xs ++ (int8 n).take 2 ++ [by8 (n / 1099511627776)]):=hown
     rw [List.append_assoc] at h;exact h
    have HE2:Hid (Ex base none w w1):=(HE.out.trans (Ex.new wr _) (by omega) (by simp)).trans hex (Nat.le_refl _) (by simp)
    have hz2:base≤w1.heap.size:=by have:=HE2.out.size;omega
    clear hown hex
    go_roundw
    case rel=>exact⟨3,ro2,rc2,by omega,by first | rfl | go_num,rfl,hz2,HO2.out,HE2.out⟩
    case measure=>simp [intOf]
  · go_wp2_with (at_builtin;refine wpList_appE2 rfl (.tmp 10) (.tmp 17) _ 5 (by rfl) Tryz.underlying79 _ 1 1 Tryz.infoB rfl (by decide) (by decide) byE byE_len one_byE base ro rc (m+3) (xs ++ (int8 n).take 3) (by rw [List.length_append,←HML.out];rfl) (by rfl) (some ⟨wr.heap.size,0,none⟩) 1 1 (by rfl) [by8 (n / 4294967296)] rfl (HO.out.keep (Ex.new wr _) (Nat.le_refl _) (by simp)) (lit_cells (by simp [byE,by8_toNat,IntKind.wrap_u64] <;> omega)) (by omega) (by simp;omega) (m+4) (by omega) ?_;intro ro2 rc2 w1 hown hex _ _)
    have HO2:Hid (OwnB w1 base ro2 rc2 (xs ++ (int8 n).take 4)):=by
     have h:OwnB w1 base ro2 rc2 (xs ++ (int8 n).take 3 ++ [by8 (n / 4294967296)]):=hown
     rw [List.append_assoc] at h;exact h
    have HE2:Hid (Ex base none w w1):=(HE.out.trans (Ex.new wr _) (by omega) (by simp)).trans hex (Nat.le_refl _) (by simp)
    have hz2:base≤w1.heap.size:=by have:=HE2.out.size;omega
    clear hown hex
    go_roundw
    case rel=>exact⟨4,ro2,rc2,by omega,by first | rfl | go_num,rfl,hz2,HO2.out,HE2.out⟩
    case measure=>simp [intOf]
  · go_wp2_with (at_builtin;refine wpList_appE2 rfl (.tmp 10) (.tmp 17) _ 5 (by rfl) Tryz.underlying79 _ 1 1 Tryz.infoB rfl (by decide) (by decide) byE byE_len one_byE base ro rc (m+4) (xs ++ (int8 n).take 4) (by rw [List.length_append,←HML.out];rfl) (by rfl) (some ⟨wr.heap.size,0,none⟩) 1 1 (by rfl) [by8 (n / 16777216)] rfl (HO.out.keep (Ex.new wr _) (Nat.le_refl _) (by simp)) (lit_cells (by simp [byE,by8_toNat,IntKind.wrap_u64] <;> omega)) (by omega) (by simp;omega) (m+5) (by omega) ?_;intro ro2 rc2 w1 hown hex _ _)
    have HO2:Hid (OwnB w1 base ro2 rc2 (xs ++ (int8 n).take 5)):=by
     have h:OwnB w1 base ro2 rc2 (xs ++ (int8 n).take 4 ++ [by8 (n / 16777216)]):=hown
     rw [List.append_assoc] at h;exact h
    have HE2:Hid (Ex base none w w1):=(HE.out.trans (Ex.new wr _) (by omega) (by simp)).trans hex (Nat.le_refl _) (by simp)
    have hz2:base≤w1.heap.size:=by have:=HE2.out.size;omega
    clear hown hex
    go_roundw
    case rel=>exact⟨5,ro2,rc2,by omega,by first | rfl | go_num,rfl,hz2,HO2.out,HE2.out⟩
    case measure=>simp [intOf]
  · go_wp2_with (at_builtin;refine wpList_appE2 rfl (.tmp 10) (.tmp 17) _ 5 (by rfl) Tryz.underlying79 _ 1 1 Tryz.infoB rfl (by decide) (by decide) byE byE_len one_byE base ro rc (m+5) (xs ++ (int8 n).take 5) (by rw [List.length_append,←HML.out];rfl) (by rfl) (some ⟨wr.heap.size,0,none⟩) 1 1 (by rfl) [by8 (n / 65536)] rfl (HO.out.keep (Ex.new wr _) (Nat.le_refl _) (by simp)) (lit_cells (by simp [byE,by8_toNat,IntKind.wrap_u64] <;> omega)) (by omega) (by simp;omega) (m+6) (by omega) ?_;intro ro2 rc2 w1 hown hex _ _)
    have HO2:Hid (OwnB w1 base ro2 rc2 (xs ++ (int8 n).take 6)):=by
     have h:OwnB w1 base ro2 rc2 (xs ++ (int8 n).take 5 ++ [by8 (n / 65536)]):=hown
     rw [List.append_assoc] at h;exact h
    have HE2:Hid (Ex base none w w1):=(HE.out.trans (Ex.new wr _) (by omega) (by simp)).trans hex (Nat.le_refl _) (by simp)
    have hz2:base≤w1.heap.size:=by have:=HE2.out.size;omega
    clear hown hex
    go_roundw
    case rel=>exact⟨6,ro2,rc2,by omega,by first | rfl | go_num,rfl,hz2,HO2.out,HE2.out⟩
    case measure=>simp [intOf]
  · go_wp2_with (at_builtin;refine wpList_appE2 rfl (.tmp 10) (.tmp 17) _ 5 (by rfl) Tryz.underlying79 _ 1 1 Tryz.infoB rfl (by decide) (by decide) byE byE_len one_byE base ro rc (m+6) (xs ++ (int8 n).take 6) (by rw [List.length_append,←HML.out];rfl) (by rfl) (some ⟨wr.heap.size,0,none⟩) 1 1 (by rfl) [by8 (n / 256)] rfl (HO.out.keep (Ex.new wr _) (Nat.le_refl _) (by simp)) (lit_cells (by simp [byE,by8_toNat,IntKind.wrap_u64] <;> omega)) (by omega) (by simp;omega) (m+7) (by omega) ?_;intro ro2 rc2 w1 hown hex _ _)
    have HO2:Hid (OwnB w1 base ro2 rc2 (xs ++ (int8 n).take 7)):=by
     have h:OwnB w1 base ro2 rc2 (xs ++ (int8 n).take 6 ++ [by8 (n / 256)]):=hown
     rw [List.append_assoc] at h;exact h
    have HE2:Hid (Ex base none w w1):=(HE.out.trans (Ex.new wr _) (by omega) (by simp)).trans hex (Nat.le_refl _) (by simp)
    have hz2:base≤w1.heap.size:=by have:=HE2.out.size;omega
    clear hown hex
    go_roundw
    case rel=>exact⟨7,ro2,rc2,by omega,by first | rfl | go_num,rfl,hz2,HO2.out,HE2.out⟩
    case measure=>simp [intOf]
  · go_wp2_with (at_builtin;refine wpList_appE2 rfl (.tmp 10) (.tmp 17) _ 5 (by rfl) Tryz.underlying79 _ 1 1 Tryz.infoB rfl (by decide) (by decide) byE byE_len one_byE base ro rc (m+7) (xs ++ (int8 n).take 7) (by rw [List.length_append,←HML.out];rfl) (by rfl) (some ⟨wr.heap.size,0,none⟩) 1 1 (by rfl) [by8 (n)] rfl (HO.out.keep (Ex.new wr _) (Nat.le_refl _) (by simp)) (lit_cells (by simp [byE,by8_toNat,IntKind.wrap_u64] <;> omega)) (by omega) (by simp;omega) (m+8) (by omega) ?_;intro ro2 rc2 w1 hown hex _ _)
    have HO2:Hid (OwnB w1 base ro2 rc2 (xs ++ (int8 n).take 8)):=by
     have h:OwnB w1 base ro2 rc2 (xs ++ (int8 n).take 7 ++ [by8 (n)]):=hown
     rw [List.append_assoc] at h;exact h
    have HE2:Hid (Ex base none w w1):=(HE.out.trans (Ex.new wr _) (by omega) (by simp)).trans hex (Nat.le_refl _) (by simp)
    have hz2:base≤w1.heap.size:=by have:=HE2.out.size;omega
    clear hown hex
    go_roundw
    case rel=>exact⟨8,ro2,rc2,by omega,by first | rfl | go_num,rfl,hz2,HO2.out,HE2.out⟩
    case measure=>simp [intOf]
  · go_wp2
    go_ret
    exact⟨ro,rc,rfl,HO.out,HE.out⟩
set_option maxHeartbeats 1000000 in
theorem int_any {P:Nat→Prop} (v:Value) (xs:List UInt8) (n:Int) (w:World) (hv:Sl byRep P w v xs) (hm:xs.length≤5000000) :
 Calls Tryz.prog 131 #[v,.int .i64 n] w fun e w'=>∃ro rc,e=.returned (.slice ro (xs.length+8) rc)∧OwnB w' w.heap.size ro rc (xs ++ int8 n)∧Ex w.heap.size none w w':=by
 have HV:=Lib.hid hv
 clear hv
 go_enter Tryz.func131,Tryz.ntmps131
 go_wp2_with (first
  | (go_at_call 163
     refine(cloneBytes_any v xs w HV.out hm).mono ?_
     rintro e w1 ⟨r1,c1,rfl,hown,hex⟩
     have H1:Hid (OwnB w1 w.heap.size r1 c1 xs∧Ex w.heap.size none w w1):=Lib.hid ⟨hown,hex⟩
     have hz1:w.heap.size≤w1.heap.size:=hex.size
     clear hown hex)
  | (go_at_call 162
     refine(put_any w.heap.size r1 c1 xs n w1 H1.out.1 hz1 hm).mono ?_
     rintro e w2 ⟨r2,c2,rfl,hown,hex⟩
     have H2:Hid (OwnB w2 w.heap.size r2 c2 (xs ++ int8 n)∧Ex w.heap.size none w w2):=Lib.hid ⟨hown,H1.out.2.trans hex (Nat.le_refl _) (by simp)⟩
     clear hown hex)
  | fail)
 go_ret
 exact⟨r2,c2,rfl,H2.out.1,H2.out.2⟩
set_option maxHeartbeats 1000000 in
theorem text_any {P:Nat→Prop} (v:Value) (xs:List UInt8) (s:ByteArray) (w:World) (hv:Sl byRep P w v xs) (hm:xs.length≤4000000) (hs:s.size≤1200000) :
 Calls Tryz.prog 132 #[v,.string s] w fun e w'=>∃ro rc,e=.returned (.slice ro (xs.length+8+s.size) rc)∧OwnB w' w.heap.size ro rc (xs ++ int8 s.size ++ strL s)∧Ex w.heap.size none w w':=by
 have HV:=Lib.hid hv
 clear hv
 go_enter Tryz.func132,Tryz.ntmps132
 go_wp2_with fail
 refine(int_any v xs s.size w HV.out (by omega)).mono ?_
 rintro e w1 ⟨ro,rc,rfl,hown,hex⟩
 have HO:=Lib.hid hown
 have HE:=Lib.hid hex
 have hz:=hex.size
 clear hown hex
 go_wp2_with (at_builtin;refine wpList_appB_str rfl (.tmp 8) (.tmp 9) _ _ (by rfl) Tryz.underlying79 Tryz.underlying9 Tryz.infoB w.heap.size ro rc (xs.length+8) (xs ++ int8 s.size) (by rw [List.length_append];rfl) (by rfl) s (by rfl) HO.out (by omega) hz ?_;intro ro2 rc2 w2 hown2 hex2)
 go_ret
 exact⟨ro2,rc2,rfl,hown2,HE.out.trans hex2 (Nat.le_refl _) (by simp)⟩
set_option maxHeartbeats 1000000 in
theorem ints_any {P:Nat→Prop} (v u:Value) (xs:List UInt8) (l:List Int) (w:World) (hv:Sl byRep P w v xs) (hu:Ints w u l) (hm:xs.length≤3000000) (hl:l.length≤100000) :
 Calls Tryz.prog 133 #[v,u] w fun e w'=>∃ro rc,e=.returned (.slice ro (xs.length+8+l.length * 8) rc)∧OwnB w' w.heap.size ro rc (xs ++ int8 l.length ++ intsB l)∧Ex w.heap.size none w w':=by
 obtain⟨ao,cap,rfl,hx⟩:=hu
 have HV:=Lib.hid hv
 have HX:=Lib.hid hx
 clear hv hx
 go_enter Tryz.func133,Tryz.ntmps133
 go_wp2_with fail
 refine(int_any v xs l.length w HV.out (by omega)).mono ?_
 rintro e w1 ⟨ro,rc,rfl,hown,hex⟩
 have HO:=Lib.hid hown
 have HE:=Lib.hid hex
 clear hown hex
 go_wp2_with fail
 go_loopw [5,7,14] (fun v u i wr=>∃(k:Nat) (ro:Option Addr) (rc:Nat),k≤l.length∧i=.int .i64 k∧v=.slice ro (xs.length+8+k * 8) rc∧OwnB wr w.heap.size ro rc (xs ++ int8 l.length ++ intsB (l.take k))∧Ex w.heap.size none w wr) (fun _ _ i _=>l.length - (intOf i).toNat)
 case atStart=>exact⟨0,ro,rc,by omega,rfl,by rw [Nat.zero_mul,Nat.add_zero],by simpa [intsB] using HO.out,HE.out⟩
 case round=>
  obtain⟨k,ro,rc,hk,rfl,rfl,hown,hex⟩:=hrel
  have hsz:=hex.size
  by_cases hlt:k < l.length
  · obtain⟨b,off,y,rfl,hc,HY⟩:=(HX.out.keep hex (Nat.le_refl _) (by simp)).get k hlt
    have HK:Hid (intsB (l.take (k+1))=intsB (l.take k) ++ int8 y):=(show _=_ by
     have h:=HY.out
     rw [List.getD_eq_getElem?_getD,List.getElem?_eq_getElem hlt] at h
     simp only [Option.getD_some] at h
     rw [List.take_add_one,List.getElem?_eq_getElem hlt,h]
     simp [intsB])
    have HTL:Hid ((intsB (l.take k)).length=k * 8):=(show _=_ by rw [intsB_len];simp;omega)
    obtain⟨ys,hys⟩:∃ys,ys=xs ++ int8 l.length ++ intsB (l.take k):=⟨_,rfl⟩
    have HL:Hid (ys.length=xs.length+8+k * 8):=(show _=_ by rw [hys,List.length_append,List.length_append,HTL.out,int8_len])
    have HYS:=Lib.hid hys
    rw [←hys] at hown
    have HO:=Lib.hid hown
    have HE:=Lib.hid hex
    clear hown hex hys
    have HPC:Hid (Calls Tryz.prog 162 #[.slice ro (xs.length+8+k * 8) rc,.int .i64 y] wr fun e w'=>∃r2 c2,e=.returned (.slice r2 (xs.length+8+k * 8+8) c2)∧OwnB w' w.heap.size r2 c2 (ys ++ int8 y)∧Ex w.heap.size none wr w'):=Lib.hid (by
     have h:=put_any w.heap.size ro rc ys y wr HO.out hsz (by rw [HL.out];omega)
     rw [HL.out] at h
     exact h)
    go_wp2_with (go_at_call 162
                 refine HPC.out.mono ?_
                 rintro e w2 ⟨ro2,rc2,rfl,hown2,hex2⟩
                 have HO2:Hid (OwnB w2 w.heap.size ro2 rc2 (ys ++ int8 y)):=hown2
                 have HE2:=Lib.hid hex2
                 clear hown2 hex2)
    go_roundw
    case rel=>exact⟨k+1,ro2,rc2,by omega,by go_num,by rw [Nat.add_mul];rfl,by rw [HK.out,←List.append_assoc,←HYS.out];exact HO2.out,HE.out.trans HE2.out (Nat.le_refl _) (by simp)⟩
    case measure=>simp [intOf] <;> omega
  · obtain rfl:k=l.length:=by omega
    rw [List.take_length] at hown
    go_wp2
    go_ret
    exact⟨ro,rc,rfl,hown,hex⟩
end Go.Proofs.YtflhidfclfkjlaaGreat

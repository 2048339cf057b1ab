/- ref03.in, key, PinsOK, numbers, Check: contracts, no statement of the seat. | ref03.PinsOK: a contract, no statement of the seat. | Empty and not empty texts: facts for walks. No statement of the seat. | lists.Only at statements: a contract, no statement of the seat. | store.part: the statements of an author, without copying them. No statement of the seat. | epoch.Until, Window: contracts, no statement of the seat. | ref05.Of: the statements of one author, a copy. No statement of the seat. -/
import Derived.Test.YtflhidfclfkjlaaGreatMg04
import Derived.Test.YtflhidfclfkjlaaGreatOnlyG
import Derived.Outline
import Derived.BigQuiet
import Derived.IntWalk
import Derived.Test.YtflhidfclfkjlaaGreatMg00
import Derived.Deep.Cut
import Derived.Test.YtflhidfclfkjlaaGreatMg05
namespace Go.Proofs.YtflhidfclfkjlaaGreat
open Go.RowKit Go.Sort
def inB (x most:Int):Bool:=decide (0≤x) && decide (x≤most)
def keyB (x:Int):Bool:=decide (0≤x) && decide (x < 64)
theorem inB_iff {x m:Int}:inB x m=true ↔ 0≤x∧x≤m:=by simp [inB]
theorem keyB_iff {x:Int}:keyB x=true ↔ 0≤x∧x < 64:=by simp [keyB]
def pinAt (l:List PinD) (i:Nat):Bool :=
 match l[i]? with
 | none=>true
 | some p=>keyB p.1 && (decide (i=0) || decide ((l[i - 1]?.getD p).1 < p.1)) && decide (1≤p.2.1) && decide (p.2.1≤200) && decide (p.2.2.size=32)
def pinsTo (l:List PinD) (k:Nat):Bool:=(List.range k).all (pinAt l)
def pinsB (l:List PinD):Bool:=pinsTo l l.length
theorem pinsTo_succ (l:List PinD) (k:Nat):pinsTo l (k+1)= (pinsTo l k && pinAt l k):=by simp [pinsTo,List.range_succ]
theorem pinsTo_no {l:List PinD} {k:Nat} (hk:k < l.length) (h:pinAt l k=false):pinsB l=false:=by
 unfold pinsB pinsTo
 rw [List.all_eq_false]
 exact⟨k,by simpa using hk,by simp [h]⟩
def M40:Int:=1099511627776
def kindB (s:St):Bool :=
 if s.kind=1 then keyB s.a && decide (s.a≠s.author) && decide (1≤s.b) && decide (s.b≤3) && decide (s.time≤s.c) && decide (s.c≤2147483648)
 else if s.kind=2 then inB s.a 199 && decide (s.b=0) && decide (s.c=0)
 else if s.kind=3 then decide (s.a=0) && decide (s.b=0) && decide (s.c=0)
 else true
def numB (s:St):Bool:=inB s.number 199 && inB s.a M40 && inB s.b M40 && inB s.c M40 && s.list.all (fun x=>inB x M40) && kindB s
def checkI (s:St):Int :=
 if keyB s.author=false then 4
 else if s.kind < 1∨(3 < s.kind∧s.kind < 10)∨31 < s.kind then 5
 else if inB s.time 2147483648=false then 9
 else if numB s=false then 2
 else if 64 < s.list.length∨64 < s.pins.length∨4096 < s.body.size then 3
 else if (s.number=0∧s.prev≠⟨#[]⟩)∨(0 < s.number∧s.prev.size≠32)∨pinsB s.pins=false then 1
 else if s.kind≤3∧(0 < s.list.length∨0 < s.pins.length∨s.body≠⟨#[]⟩) then 1
 else 0
set_option maxHeartbeats 400000 in
theorem in03_any (x m:Int) (w:World):Calls Tryz.prog 76 #[.int .i64 x,.int .i64 m] w fun e w'=>e=.returned (.bool (inB x m))∧w=w':=by
 by_cases h1:0≤x
 · have HK:Hid (inB x m=decide (x≤m)):=(show _=_ by simp [inB,h1])
   go_enter Tryz.func76,Tryz.ntmps76
   go_wp2
   go_ret
   exact⟨by rw [HK.out];rfl,rfl⟩
 · have hd:decide (0≤x)=false:=decide_eq_false h1
   have HK:Hid (inB x m=false):=(show _=_ by simp [inB,h1])
   go_enter Tryz.func76,Tryz.ntmps76
   go_wp2
   go_ret
   exact⟨by rw [HK.out];rfl,rfl⟩
set_option maxHeartbeats 400000 in
theorem key03_any (x:Int) (w:World):Calls Tryz.prog 75 #[.int .i64 x] w fun e w'=>e=.returned (.bool (keyB x))∧w=w':=by
 by_cases h1:0≤x
 · have HK:Hid (keyB x=decide (x < 64)):=(show _=_ by simp [keyB,h1])
   go_enter Tryz.func75,Tryz.ntmps75
   go_wp2
   go_ret
   exact⟨by rw [HK.out];rfl,rfl⟩
 · have hd:decide (0≤x)=false:=decide_eq_false h1
   have HK:Hid (keyB x=false):=(show _=_ by simp [keyB,h1])
   go_enter Tryz.func75,Tryz.ntmps75
   go_wp2
   go_ret
   exact⟨by rw [HK.out];rfl,rfl⟩
theorem pin_get {P:Nat→Prop} {w:World} {ao:Option Addr} {xs:List PinD} (h:SlAt pinRep P w ao xs) (i:Nat) (hi:i < xs.length):∃b off p,ao=some ⟨b,off,none⟩∧P b∧b < w.heap.size∧w.cell? ⟨b,off+i * 3,none⟩=some (.int .i64 p.1)∧w.cell? ⟨b,off+i * 3+1,none⟩=some (.int .i64 p.2.1)∧w.cell? ⟨b,off+i * 3+2,none⟩=some (.string p.2.2)∧Hid (xs[i]? =some p):=by
 obtain⟨b,off,cs,e,hp,hr,hR⟩:=h i hi
 have hcs:cs=pinE xs[i]:=hR
 subst hcs
 exact⟨b,off,xs[i],e,hp,rangeAt_lt hr (by rw [pinE_len];omega),hr 0 _ rfl,hr 1 _ rfl,hr 2 _ rfl,(show _=_ by simp [hi])⟩
set_option maxHeartbeats 8000000 in
set_option maxRecDepth 100000 in
theorem pinsOK_any {P:Nat→Prop} (v:Value) (l:List PinD) (w:World) (hv:Sl pinRep P w v l) (hm:l.length≤9223372036854775807) :
 Calls Tryz.prog 78 #[v] w fun e w'=>e=.returned (.bool (pinsB l))∧Ex w.heap.size none w w':=by
 obtain⟨ao,cap,rfl,hx⟩:=hv
 have HX:=Lib.hid hx
 clear hx
 go_enter Tryz.func78,Tryz.ntmps78
 go_wp2
 go_loopw [3] (fun i wr=>∃k:Nat,k≤l.length∧i=.int .i64 k∧Hid (pinsTo l k=true)∧Ex w.heap.size none w wr) (fun i _=>l.length - (intOf i).toNat)
 case atStart=>exact⟨0,Nat.zero_le _,rfl,rfl,Ex.refl _ _ _⟩
 case round=>
  obtain⟨k,hk,rfl,HT,hex⟩:=hrel
  have hsz:=hex.size
  by_cases hlt:k < l.length
  · obtain⟨b,off,p,rfl,_,hb,c0,c1,c2,HP⟩:=pin_get (HX.out.keep (by decide) (fun b _ hb=>hex.block b hb (by simp))) k hlt
    have HW:=Lib.hid hex
    clear hex
    cases h1:keyB p.1 with
    | false=>
      have HK:Hid (pinsB l=false):=pinsTo_no hlt (by unfold pinAt;rw [HP.out];simp [h1])
      go_wp2_with fail
      go_quiet ((go_at_call 75;exact(key03_any _ _).mono fun _ _ h=>⟨h.1,_,h.2.symm⟩))
      go_wp2
      go_ret
      exact⟨by rw [HK.out];rfl,by (repeat(first | exact HW.out | refine Ex.drewN ?_ | refine Ex.drew ?_ | refine Ex.setCell ?_ _ none _ (.inr hsz) | refine Ex.alloc ?_ hsz _))⟩
    | true=>
      by_cases h0:k=0
      · have h0d:decide (0 < k)=false:=by simp [h0]
        have HZ:=Lib.hid h0
        clear h0
        by_cases h3:1≤p.2.1
        · have h3d:decide (p.2.1 < 1)=false:=decide_eq_false (by omega)
          by_cases h4:p.2.1≤200
          · have h4d:decide (200 < p.2.1)=false:=decide_eq_false (by omega)
            by_cases h5:p.2.2.size=32
            · have h5d: (((p.2.2.size:Nat):Int) != 32)=false:=by simp [h5]
              have HK:Hid (pinAt l k=true):=(show _=_ by unfold pinAt;rw [HP.out];simp [h1,HZ.out,h3,h4,h5])
              go_wp2_with fail
              go_quiet ((go_at_call 75;exact(key03_any _ _).mono fun _ _ h=>⟨h.1,_,h.2.symm⟩))
              go_wp2
              go_roundw
              case rel=>exact⟨k+1,by omega,by go_num,(show _=_ by rw [pinsTo_succ,HT.out,HK.out];rfl),by (repeat(first | exact HW.out | refine Ex.drewN ?_ | refine Ex.drew ?_ | refine Ex.setCell ?_ _ none _ (.inr hsz) | refine Ex.alloc ?_ hsz _))⟩
              case measure=>simp [intOf] <;> omega
            · have h5d: (((p.2.2.size:Nat):Int) != 32)=true:=by simp;omega
              have HK:Hid (pinsB l=false):=pinsTo_no hlt (by unfold pinAt;rw [HP.out];simp [h1,HZ.out,h3,h4,h5])
              go_wp2_with fail
              go_quiet ((go_at_call 75;exact(key03_any _ _).mono fun _ _ h=>⟨h.1,_,h.2.symm⟩))
              go_wp2
              go_ret
              exact⟨by rw [HK.out];rfl,by (repeat(first | exact HW.out | refine Ex.drewN ?_ | refine Ex.drew ?_ | refine Ex.setCell ?_ _ none _ (.inr hsz) | refine Ex.alloc ?_ hsz _))⟩
          · have h4d:decide (200 < p.2.1)=true:=decide_eq_true (by omega)
            have HK:Hid (pinsB l=false):=pinsTo_no hlt (by unfold pinAt;rw [HP.out];simp [h1,HZ.out,h3,h4])
            go_wp2_with fail
            go_quiet ((go_at_call 75;exact(key03_any _ _).mono fun _ _ h=>⟨h.1,_,h.2.symm⟩))
            go_wp2
            go_ret
            exact⟨by rw [HK.out];rfl,by (repeat(first | exact HW.out | refine Ex.drewN ?_ | refine Ex.drew ?_ | refine Ex.setCell ?_ _ none _ (.inr hsz) | refine Ex.alloc ?_ hsz _))⟩
        · have h3d:decide (p.2.1 < 1)=true:=decide_eq_true (by omega)
          have HK:Hid (pinsB l=false):=pinsTo_no hlt (by unfold pinAt;rw [HP.out];simp [h1,HZ.out,h3])
          go_wp2_with fail
          go_quiet ((go_at_call 75;exact(key03_any _ _).mono fun _ _ h=>⟨h.1,_,h.2.symm⟩))
          go_wp2
          go_ret
          exact⟨by rw [HK.out];rfl,by (repeat(first | exact HW.out | refine Ex.drewN ?_ | refine Ex.drew ?_ | refine Ex.setCell ?_ _ none _ (.inr hsz) | refine Ex.alloc ?_ hsz _))⟩
      · have h0d:0 < k:=by omega
        obtain⟨i,hi⟩:∃i,i=k - 1:=⟨_,rfl⟩
        have hw1:IntKind.i64.wrap ((k:Int) - 1)=i:=by rw [show(k:Int) - 1=i by omega];exact IntWalk.i64_in _ (by omega)
        have hik: (i:Int) < (l.length:Int):=by omega
        obtain⟨b',off',q,e',_,hb',c0',_,_,HQ⟩:=pin_get (HX.out.keep (by decide) (fun b _ hb=>HW.out.block b hb (by simp))) i (by omega)
        cases e'
        have HI:Hid (l[k - 1]? =some q):=by rw [←hi];exact HQ
        clear hi
        by_cases h2:q.1 < p.1
        · have h2d:decide (p.1≤q.1)=false:=decide_eq_false (by omega)
          by_cases h3:1≤p.2.1
          · have h3d:decide (p.2.1 < 1)=false:=decide_eq_false (by omega)
            by_cases h4:p.2.1≤200
            · have h4d:decide (200 < p.2.1)=false:=decide_eq_false (by omega)
              by_cases h5:p.2.2.size=32
              · have h5d: (((p.2.2.size:Nat):Int) != 32)=false:=by simp [h5]
                have HK:Hid (pinAt l k=true):=(show _=_ by unfold pinAt;rw [HP.out];simp [h1,h0,HI.out,h2,h3,h4,h5])
                go_wp2_with fail
                go_quiet ((go_at_call 75;exact(key03_any _ _).mono fun _ _ h=>⟨h.1,_,h.2.symm⟩))
                go_wp2
                go_roundw
                case rel=>exact⟨k+1,by omega,by go_num,(show _=_ by rw [pinsTo_succ,HT.out,HK.out];rfl),by (repeat(first | exact HW.out | refine Ex.drewN ?_ | refine Ex.drew ?_ | refine Ex.setCell ?_ _ none _ (.inr hsz) | refine Ex.alloc ?_ hsz _))⟩
                case measure=>simp [intOf] <;> omega
              · have h5d: (((p.2.2.size:Nat):Int) != 32)=true:=by simp;omega
                have HK:Hid (pinsB l=false):=pinsTo_no hlt (by unfold pinAt;rw [HP.out];simp [h1,h0,HI.out,h2,h3,h4,h5])
                go_wp2_with fail
                go_quiet ((go_at_call 75;exact(key03_any _ _).mono fun _ _ h=>⟨h.1,_,h.2.symm⟩))
                go_wp2
                go_ret
                exact⟨by rw [HK.out];rfl,by (repeat(first | exact HW.out | refine Ex.drewN ?_ | refine Ex.drew ?_ | refine Ex.setCell ?_ _ none _ (.inr hsz) | refine Ex.alloc ?_ hsz _))⟩
            · have h4d:decide (200 < p.2.1)=true:=decide_eq_true (by omega)
              have HK:Hid (pinsB l=false):=pinsTo_no hlt (by unfold pinAt;rw [HP.out];simp [h1,h0,HI.out,h2,h3,h4])
              go_wp2_with fail
              go_quiet ((go_at_call 75;exact(key03_any _ _).mono fun _ _ h=>⟨h.1,_,h.2.symm⟩))
              go_wp2
              go_ret
              exact⟨by rw [HK.out];rfl,by (repeat(first | exact HW.out | refine Ex.drewN ?_ | refine Ex.drew ?_ | refine Ex.setCell ?_ _ none _ (.inr hsz) | refine Ex.alloc ?_ hsz _))⟩
          · have h3d:decide (p.2.1 < 1)=true:=decide_eq_true (by omega)
            have HK:Hid (pinsB l=false):=pinsTo_no hlt (by unfold pinAt;rw [HP.out];simp [h1,h0,HI.out,h2,h3])
            go_wp2_with fail
            go_quiet ((go_at_call 75;exact(key03_any _ _).mono fun _ _ h=>⟨h.1,_,h.2.symm⟩))
            go_wp2
            go_ret
            exact⟨by rw [HK.out];rfl,by (repeat(first | exact HW.out | refine Ex.drewN ?_ | refine Ex.drew ?_ | refine Ex.setCell ?_ _ none _ (.inr hsz) | refine Ex.alloc ?_ hsz _))⟩
        · have h2d:decide (p.1≤q.1)=true:=decide_eq_true (by omega)
          have HK:Hid (pinsB l=false):=pinsTo_no hlt (by unfold pinAt;rw [HP.out];simp [h1,h0,HI.out,h2])
          go_wp2_with fail
          go_quiet ((go_at_call 75;exact(key03_any _ _).mono fun _ _ h=>⟨h.1,_,h.2.symm⟩))
          go_wp2
          go_ret
          exact⟨by rw [HK.out];rfl,by (repeat(first | exact HW.out | refine Ex.drewN ?_ | refine Ex.drew ?_ | refine Ex.setCell ?_ _ none _ (.inr hsz) | refine Ex.alloc ?_ hsz _))⟩
  · obtain rfl:k=l.length:=by omega
    go_wp2
    go_ret
    exact⟨by rw [show pinsB l=true from HT.out];rfl,hex⟩
theorem emptyS_list: (⟨#[]⟩:ByteArray).toList=[]:=by rw [ByteArray.toList_eq]
theorem emptyS_facts {a:ByteArray} (h:a= ⟨#[]⟩): (a.toList == (⟨#[]⟩:ByteArray).toList)=true∧(a.toList == [])=true∧a.toList.isEmpty=true:=by
 subst h
 rw [emptyS_list];exact⟨rfl,rfl,rfl⟩
theorem nonemptyS_facts {a:ByteArray} (h : ¬a= ⟨#[]⟩): (a.toList == (⟨#[]⟩:ByteArray).toList)=false∧(a.toList == [])=false∧a.toList.isEmpty=false:=by
 have h1:=(bytes_nbeq h).2
 have h2: (a.toList == [])=false:=by rwa [emptyS_list] at h1
 refine⟨h1,h2,?_⟩
 cases hl:a.toList with
 | nil=>rw [hl] at h2;cases h2
 | cons x r=>rfl
set_option maxHeartbeats 2000000 in
set_option maxRecDepth 100000 in
theorem of05_any {P:Nat→Prop} (ao:Option Addr) (cap:Nat) (l:List St) (a:Int) (w:World) (hx:SlAt stRep P w ao l) (hm:l.length≤100000) (hl:LightL 1000000 l) :
 Calls Tryz.prog 47 #[.agg #[.slice ao l.length cap],.int .i64 a] w fun e w'=>∃ro rc,e=.returned (.slice ro (l.filter (fun s=>decide (s.author=a))).length rc)∧OwnS w' w.heap.size ro rc (l.filter (fun s=>decide (s.author=a)))∧Ex w.heap.size none w w':=by
 have HL:=Lib.hid hl
 obtain⟨p,hp⟩:∃p:St→Bool,p= (fun s=>decide (s.author=a)):=⟨_,rfl⟩
 have HP:=Lib.hid hp
 rw [←hp]
 clear hl hp
 go_enter Tryz.func47,Tryz.ntmps47
 go_upto_region 2 with(fail)
 obtain⟨w0,hw0⟩:∃w0:World,w0=w.alloc (.cells #[.slice ao l.length cap] 29):=⟨_,rfl⟩
 have hex0:Ex w.heap.size none w w0:=by rw [hw0];exact Ex.new w _
 have hz0:w.heap.size < w0.heap.size:=by rw [hw0];simp
 have HB:Hid (w0.heap[w.heap.size]? =some (.cells #[.slice ao l.length cap] 29 (0,0))):=Lib.hid (by rw [hw0];exact heap_alloc_new w _)
 have hx0:=hx.keep (by decide) (fun b _ hb=>hex0.block b hb (by simp))
 have HX0:=Lib.hid hx0
 have HE0:=Lib.hid hex0
 rw [←hw0]
 clear hw0 hx hx0 hex0
 go_wp2
 go_loopw [5,6] (fun v i wr=>∃(k:Nat) (ro:Option Addr) (rc:Nat),k≤l.length∧i=.int .i64 k∧v=.slice ro ((l.take k).filter p).length rc∧OwnS wr w0.heap.size ro rc ((l.take k).filter p)∧Ex w0.heap.size none w0 wr) (fun _ i _=>l.length - (intOf i).toNat)
 case atStart=>exact⟨0,none,0,by omega,rfl,by simp,by simpa using OwnS.nil _ _,Ex.refl _ _ _⟩
 case round=>
  obtain⟨k,ro,rc,hk,rfl,rfl,hown,hex⟩:=hrel
  have hle:=filter_le (p:=p) hk
  have hsz:=hex.size
  have hbox:wr.cell? ⟨w.heap.size,0,none⟩=some (.slice ao l.length cap):=box_cell ((hex.block _ hz0 (by simp)).trans HB.out)
  by_cases hlt:k < l.length
  · have fx:=HX0.out.keep (by decide) (fun b _ hb=>hex.block b hb (by simp))
    obtain⟨b,off,s,⟨lo,ln,lc⟩,⟨po,pn,pc⟩,rfl,_,hls,hr,HX⟩:=st_get fx k hlt
    have hc:=st_at hr
    simp only [Sv.v] at hc
    obtain⟨c0,c1,c2,c3,c4,c5,c6,c7,c8,c9,c10,c11,c12⟩:=hc
    have hm1:=HL.out.get HX.out
    have HLS:=Lib.hid hls
    have HO:=Lib.hid hown
    clear fx hr hls hown
    by_cases hp:s.author=a
    · have d1: (s.author == a)=true:=by simp [hp]
      have HK:Hid ((l.take (k+1)).filter p= (l.take k).filter p ++ [s]):=filter_yes HX.out (by rw [HP.out];simp [hp])
      clear hp
      go_wp2_with fail
      refine(copy03_lit s lo po ln lc pn pc _ HLS.out (by omega)).mono ?_
      rintro e w2 ⟨la,na,ca,pa,np,cp,rfl,hl2,hex2⟩
      have hs2:=hex2.size
      have HL2:=Lib.hid hl2
      clear hl2 hbox c0 c1 c2 c3 c4 c5 c6 c7 c8 c9 c10 c11 c12
      go_wp2_with (at_builtin;refine wpList_appS rfl (.tmp 22) (.tmp 29) _ rfl Tryz.underlying27 Tryz.infoSt w0.heap.size ro rc _ ((l.take k).filter p) rfl (by rfl) w2.heap.size (by rfl) (s,⟨la,na,ca⟩,⟨pa,np,cp⟩) (HO.out.keep (hex2.trans (Ex.new w2 _) hs2 (by simp)) (Nat.le_refl _)) (lit_st rfl) (lies_new HO.out HL2.out hsz) (by omega) (by simp <;> omega) ?_;intro ro' rc' w3 hown3 hex3)
      go_roundw
      case rel=>exact⟨k+1,ro',rc',by omega,by go_num,by rw [HK.out,List.length_append];rfl,by rw [HK.out];exact hown3,(hex.trans hex2 hsz (by simp)).trans ((Ex.new w2 _).mono (show w0.heap.size≤w2.heap.size by omega) |>.trans hex3 (Nat.le_refl _) (by simp)) (Nat.le_refl _) (by simp)⟩
      case measure=>simp [intOf] <;> omega
    · have d1: (s.author == a)=false:=by simp [hp]
      have HK:Hid ((l.take (k+1)).filter p= (l.take k).filter p):=filter_no HX.out (by rw [HP.out];simp [hp])
      clear hp
      go_wp2
      go_roundw
      case rel=>exact⟨k+1,ro,rc,by omega,by go_num,by rw [HK.out],by rw [HK.out];exact HO.out,hex⟩
      case measure=>simp [intOf] <;> omega
  · obtain rfl:k=l.length:=by omega
    rw [List.take_length] at hown ⊢
    have HEX:=Lib.hid hex
    have HOW:=Lib.hid hown
    clear hex hown
    go_wp2
    go_ret
    exact⟨ro,rc,rfl,HOW.out.lower (by omega),HE0.out.trans HEX.out (by omega) (by simp)⟩
end Go.Proofs.YtflhidfclfkjlaaGreat

/- Sorted and compacted numbers: plain laws; the library's Sort and Compact at ints, met in these texts' words. No statement of the seat. | The library's Compact at an owned row of ints, in these texts' words; what it keeps. No statement of the seat. | A region that draws its order and makes boxes: the boxes are different ones. For whatever program; no statement of the seat. | ref23.SameInts: contracts, no statement of the seat. | mill.Light: contracts, no statement of the seat. | mill.Roll: contracts, no statement of the seat. -/
import Derived.Test.YtflhidfclfkjlaaGreatShelf
import Derived.Test.YtflhidfclfkjlaaGreatMg00
import Derived.Test.YtflhidfclfkjlaaGreatMg02
import Derived.Test.YtflhidfclfkjlaaGreatRows
namespace Go.Proofs.YtflhidfclfkjlaaGreat
open Go.RowKit Go.Sort Go.Lib
def uniq (l:List Int):List Int:=Lib.compact (l.mergeSort fun x y=>decide (x≤y))
theorem ex_putRow {α:Type} [Inhabited α] (enc:α→Value) (w:World) (g off n:Nat) (d:Array α) (os:Array Obj):Ex w.heap.size (some g) w (grow (putRow enc (Go.Sort.ahead w n) g off d) os):=by
 refine⟨rfl,rfl,rfl,?_,fun i hi hne=>?_⟩
 · rw [size_grow]
   unfold putRow mapBlock Go.Sort.ahead
   simp
 · rw [heap_grow_old _ _ (by unfold putRow mapBlock Go.Sort.ahead;simpa using hi)]
   unfold putRow mapBlock Go.Sort.ahead
   simp only [Array.getElem?_modify]
   rw [if_neg (by intro e;exact hne (by rw [e]))]
theorem holds_ints {w:World} {g off:Nat} {xs:List Int} (h:Holds (Value.int .i64) w g off xs.toArray):IntsAt w (some ⟨g,off,none⟩) xs:=by
 intro j hj
 refine⟨g,off,rfl,fun i hi=>?_⟩
 rw [(h i (by simpa using hi)).1,getElem!_pos xs.toArray i (by simpa using hi)]
 simp [List.getD,hi]
theorem own_holds {w:World} {base g o cap n:Nat} {xs:List Int} (h:w.ownsRow base 3 1 (.slice (some ⟨g,o,none⟩) n cap) n (xs.map (Value.int .i64))):Holds (Value.int .i64) w g 0 xs.toArray:=by
 obtain⟨_,_,_,_,h1,h2⟩:=own_there h
 intro j hj
 have hj' :j < xs.length:=by simpa using hj
 rw [Nat.zero_add]
 refine⟨h1 j _ ?_,h2 j⟩
 rw [getElem!_pos xs.toArray j hj]
 simp [hj']
set_option maxHeartbeats 400000 in
theorem compactOwnI_any (ro:Option Addr) (rc n base:Nat) (xs:List Int) (w:World) (hown:OwnI w base ro rc xs) (hn:xs.length=n) (hm:xs.length≤1000000000000) (hb:base≤w.heap.size) :
 Calls Tryz.prog 35 #[.slice ro n rc] w fun e w'=>e=.returned (.slice ro (Lib.compact xs).length rc)∧Ex base none w w'∧IntsAt w' ro (Lib.compact xs):=by
 subst hn
 rcases hown.2 with⟨h1,h2⟩ | ⟨g,cap,cur,hv,hg,hh,_⟩
 · have hx:xs=[]:=List.eq_nil_of_length_eq_zero h2
   subst hx
   refine(Tryz.slices_Compact_int_empty ro rc w).mono ?_
   rintro e w' ⟨rfl,rfl⟩
   have:Lib.compact ([]:List Int)=[]:=by simp [Lib.compact,Lib.compactUpTo]
   exact⟨by rw [this];rfl,Ex.refl _ _ _,by rw [this];exact IntsAt.nil _ _⟩
 · cases hv
   have hc:=hown.cap
   have hlt:=(Array.getElem?_eq_some_iff.1 hh).1
   have hH:=own_holds hown
   refine(Tryz.slices_Compact_int g 0 rc xs w hH (by omega) (by omega)).mono ?_
   rintro e w' ⟨rfl,q,rfl⟩
   have hex:=ex_putRow (Value.int .i64) w g 0 q (Lib.compact xs ++ List.replicate (xs.length - (Lib.compact xs).length) 0).toArray #[]
   rw [grow_empty] at hex
   have hle: (Lib.compact xs).length≤xs.length:=by
    unfold Lib.compact Lib.compactUpTo
    simp only [List.length_map]
    exact Nat.le_trans (List.length_filter_le _ _) (by simp)
   refine⟨rfl,(hex.mono hb).above hg,?_⟩
   have hH2:=holds_putRow (Value.int .i64) (Go.Sort.ahead w q) g 0 xs.toArray (Lib.compact xs ++ List.replicate (xs.length - (Lib.compact xs).length) 0).toArray (holds_ahead (Value.int .i64) w q g 0 _ hH) (by simp;omega)
   have:=(holds_ints hH2).take (Lib.compact xs).length
   rwa [List.take_left] at this
end Go.Proofs.YtflhidfclfkjlaaGreat
namespace Go.Proofs.YtflhidfclfkjlaaGreat
open Go.RowKit Go.Sort
section
section
variable {P:Program} {md:Region.Mode} {ops:Array Oper} {Q:Exit→Act→World→Prop}
end
def StepBox (P:Program) (Q:Exit→Act→World→Prop) (l:List Oper) (fs:List Fact) (a:Act) (w:World) (i:Nat) (o:Oper):Prop :=
 ∀(a' :Act) (w' :World),Ex w.heap.size none w w'→Rim fs.length (dstOf l) a a'→Known .any fs.length (dstOf l) (fun i=>(factOf fs i).p) o a' w'→∀K:Act→World→Prop,(∀v w'',Ex w'.heap.size none w' w''→(factOf fs i).p v w''→v=.pointer (some ⟨w'.heap.size,0,none⟩)→w'.heap.size < w''.heap.size→K (a'.put o.dst v) w'')→o.wp P a' w' K Q
def AllB (P:Program) (Q:Exit→Act→World→Prop) (l:List Oper) (fs:List Fact) (bx:List Nat) (a:Act) (w:World):List Oper→Nat→Prop
 | [],_=>True
 | o :: r,i=>(if bx.contains i=true then StepBox P Q l fs a w i o else StepOK P Q l fs a w i o)∧AllB P Q l fs bx a w r (i+1)
end
end Go.Proofs.YtflhidfclfkjlaaGreat
namespace Go.Proofs.YtflhidfclfkjlaaGreat
open Go.RowKit
theorem same_take {xs ys:List Int} {k:Nat} (h:xs.take k=ys.take k) (h1:k < xs.length) (h2:k < ys.length) (he:xs.getD k 0=ys.getD k 0):xs.take (k+1)=ys.take (k+1):=by
 rw [take_snoc xs k h1,take_snoc ys k h2,h,he]
set_option maxHeartbeats 400000 in
theorem sameInts_any (v1 v2:Value) (xs ys:List Int) (w:World) (hv1:Ints w v1 xs) (hv2:Ints w v2 ys) (hm:xs.length≤9223372036854775807) :
 Calls Tryz.prog 19 #[v1,v2] w fun e w'=>e=.returned (.bool (decide (xs=ys)))∧Ex w.heap.size none w w':=by
 obtain⟨ao,cap,rfl,hx⟩:=hv1
 obtain⟨bo,cbp,rfl,hy⟩:=hv2
 by_cases hl:xs.length=ys.length
 · have hl1: ((xs.length:Int) != ys.length)=false:=by simp [hl]
   have HL:=Lib.hid hl
   go_enter Tryz.func19,Tryz.ntmps19
   clear hl
   go_wp2
   clear hl1
   go_loopw [5] (fun i wr=>∃k:Nat,k≤xs.length∧i=.int .i64 k∧xs.take k=ys.take k∧∃n,w.drewN n=wr) (fun i _=>xs.length - (intOf i).toNat)
   case atStart=>exact⟨0,Nat.zero_le _,rfl,by simp,0,rfl⟩
   case round=>
    obtain⟨k,hk,rfl,ht,n,rfl⟩:=hrel
    have HT:=Lib.hid ht
    clear ht
    by_cases hlt:k < xs.length
    · have hlt2:k < ys.length:=by have:=HL.out;omega
      obtain⟨b,off,y,rfl,hck,HY⟩:=hx.get k hlt
      obtain⟨b',off',z,rfl,hcz,HZ⟩:=hy.get k hlt2
      by_cases he:y=z
      · have hb: (y != z)=false:=by simpa using he
        have HR:=Lib.hid (same_take HT.out hlt hlt2 (by rw [HY.out,HZ.out,he]))
        clear he
        go_wp2
        go_quiet (fail)
        go_wp2
        go_roundw
        case rel=>exact⟨k+1,by omega,by go_num,HR.out,_,rfl⟩
        case measure=>simp [intOf];omega
      · have hb: (y != z)=true:=by simpa using he
        have HR:Hid (xs≠ys):=fun h=>he (by rw [←HY.out,←HZ.out,h])
        clear he
        go_wp2
        go_quiet (fail)
        go_wp2
        go_ret
        exact⟨ret_bool (by simp [HR.out]),by repeat(first | exact Ex.refl _ _ _ | refine Ex.drewN ?_)⟩
    · have HR:Hid (xs=ys):=by
       have h:=HT.out
       have:=HL.out
       rwa [List.take_of_length_le (by omega),List.take_of_length_le (by omega)] at h
      go_wp2
      go_ret
      exact⟨ret_bool (by simp [HR.out]),by repeat(first | exact Ex.refl _ _ _ | refine Ex.drewN ?_)⟩
 · have hl1: ((xs.length:Int) != ys.length)=true:=by simp;omega
   have HR:Hid (xs≠ys):=fun h=>hl (by rw [h])
   clear hl
   go_enter Tryz.func19,Tryz.ntmps19
   go_wp2
   go_ret
   exact⟨ret_bool (by simp [HR.out]),Ex.refl _ _ _⟩
theorem light_any (ao:Option Addr) (cap n:Nat) (w:World) :
 Calls Tryz.prog 4 #[.slice ao n cap] w fun e w'=>e=.returned (.bool (decide ((n:Int)≤400)))∧w=w':=by
 go_enter Tryz.func4,Tryz.ntmps4
 go_wp2
 go_ret
 exact⟨rfl,rfl⟩
theorem roll_any (v1:Value) (L:List Int) (w:World) (hv1:Ints w v1 L) (hL:L.length≤1000000) :
 Calls Tryz.prog 6 #[v1] w fun e w'=>∃p,e=.returned (.pointer (some ⟨p,0,none⟩))∧DiceAt (p+1) w' p L∧w.heap.size≤p∧p+1≤w'.heap.size∧Ex w.heap.size none w w':=by
 obtain⟨ao,cap,rfl,hx⟩:=hv1
 go_enter Tryz.func6,Tryz.ntmps6
 go_wp2_with (go_at_call 22;refine(madeRoll_any _ _ _ ⟨_,_,rfl,hx⟩ hL).mono ?_;rintro e w' ⟨p,rfl,h1,h2,h3,h4⟩)
 go_ret
 exact⟨_,rfl,h1,h2,h3,h4⟩
end Go.Proofs.YtflhidfclfkjlaaGreat

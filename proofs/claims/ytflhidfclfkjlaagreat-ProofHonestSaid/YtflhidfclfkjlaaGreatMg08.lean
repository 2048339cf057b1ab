/- Links of a chain as data, and the two closures of chain.links. No statement of the seat. | Small functions of the mourning layer and the statement layer's. No statement of the seat. | statement.value, meant; slices.IndexFunc with the program's closure: contracts at whatever statement. No statement of the seat. | statement.pinned: a contract, no statement of the seat. | shelf.Compare: the order of a store. No statement of the seat. | slices.SortFunc and slices.CompactFunc at links: contracts, no statement of the seat. | ref04.Follows: a contract, no statement of the seat. -/
import Derived.Test.YtflhidfclfkjlaaGreatMg01
import Derived.Test.YtflhidfclfkjlaaGreatMg00
import Derived.Test.YtflhidfclfkjlaaGreatSeal03G
import Derived.Sort.Grow
import Derived.Deep.RegionHeld3
import Derived.Deep.RegionLaw
import Derived.OwnWalk
import Derived.Outline
import Derived.IntWalk
import Derived.Test.YtflhidfclfkjlaaGreatMg06
import Derived.Deep.Cut
import Derived.BigQuiet
namespace Go.Proofs.YtflhidfclfkjlaaGreat
open Go.RowKit Go.Sort
def linkE (x:St×Sv×Sv):List Value:=[.int .i64 x.1.author,.int .i64 x.1.number,.string x.1.prev,.int .i64 x.1.time,.int .i64 x.1.kind,.int .i64 x.1.a,.int .i64 x.1.b,.int .i64 x.1.c,x.2.1.v,x.2.2.v,.string x.1.body,.int .i64 x.1.key,.string x.1.dig,.string x.1.dig]
theorem linkE_len (x:St×Sv×Sv): (linkE x).length=14:=rfl
theorem one_linkE:∀x,∀v∈linkE x,v.oneCell' =true:=fun x v hv=>by
 simp only [linkE,Sv.v,List.mem_cons,List.not_mem_nil,or_false] at hv
 rcases hv with rfl | rfl | rfl | rfl | rfl | rfl | rfl | rfl | rfl | rfl | rfl | rfl | rfl | rfl <;> rfl
def cmpND (x y:St×Sv×Sv):Int:=(([cmpI x.1.number y.1.number,cmpS x.1.dig y.1.dig]).find? (· != 0)).getD 0
def ltNDs (s t:St):Bool:=decide (s.number < t.number) || (decide (s.number=t.number) && lssS s.dig t.dig)
def sameDig (x y:St×Sv×Sv):Bool:=x.1.dig.toList == y.1.dig.toList
set_option maxHeartbeats 1000000 in
theorem listsIn_any (n lo hi:Int) (w:World):Calls Tryz.prog 66 #[.int .i64 n,.int .i64 lo,.int .i64 hi] w fun e w'=>e=.returned (.bool (decide (lo≤n) && decide (n≤hi)))∧w=w':=by
 by_cases h1:lo≤n
 · have d1:decide (lo≤n)=true:=decide_eq_true h1
   go_enter Tryz.func66,Tryz.ntmps66
   go_wp2
   go_ret
   exact⟨by rw [d1,Bool.true_and];rfl,rfl⟩
 · have d1:decide (lo≤n)=false:=decide_eq_false h1
   go_enter Tryz.func66,Tryz.ntmps66
   go_wp2
   go_ret
   exact⟨rfl,rfl⟩
theorem valueAny_any (n:Int) (w:World):Calls Tryz.prog 67 #[.int .i64 n] w fun e w'=>e=.returned (.bool (inB n 1099511627776))∧w=w':=by
 go_enter Tryz.func67,Tryz.ntmps67
 go_wp2_with (go_at_call 66;refine(listsIn_any _ _ _ _).mono ?_;rintro e w' ⟨rfl,rfl⟩)
 go_ret
 exact⟨rfl,rfl⟩
set_option maxHeartbeats 4000000 in
set_option maxRecDepth 100000 in
theorem meantP_any (s:St) (lo po:Option Addr) (ln lc pn pc:Nat) (w:World) :
 Calls Tryz.prog 68 #[.agg #[.int .i64 s.author,.int .i64 s.number,.string s.prev,.int .i64 s.time,.int .i64 s.kind,.int .i64 s.a,.int .i64 s.b,.int .i64 s.c,.slice lo ln lc,.slice po pn pc,.string s.body,.int .i64 s.key,.string s.dig]] w fun e w'=>e=.returned (.bool (kindB s))∧Ex w.heap.size none w w':=by
 by_cases k1:s.kind=1
 · have k1d: (s.kind == 1)=true:=by simp [k1]
   cases h1: (decide (0≤s.a) && decide (s.a≤63))
   case false=>
    have HK:Hid (kindB s=false):=by show _=_;(try simp only [Bool.and_eq_false_iff,decide_eq_false_iff_not] at *);simp [kindB,keyB,k1] <;> omega
    clear k1
    go_enter Tryz.func68,Tryz.ntmps68
    go_wp2_with (first | (go_at_call 66;refine(listsIn_any _ _ _ _).mono ?_;(first | rw [h1] | skip);rintro e w' ⟨rfl,rfl⟩) | fail)
    go_ret
    exact⟨by rw [HK.out];rfl,Ex.new _ _⟩
   by_cases h2:s.a=s.author
   case pos=>
    have h2d: (s.a != s.author)=false:=by simp [h2]
    have HK:Hid (kindB s=false):=by show _=_;(try simp only [Bool.and_eq_true,decide_eq_true_eq] at *);simp [kindB,keyB,k1,h2] <;> omega
    clear k1 h2
    go_enter Tryz.func68,Tryz.ntmps68
    go_wp2_with (first | (go_at_call 66;refine(listsIn_any _ _ _ _).mono ?_;(first | rw [h1] | skip);rintro e w' ⟨rfl,rfl⟩) | fail)
    go_ret
    exact⟨by rw [HK.out];rfl,Ex.new _ _⟩
   have h2d: (s.a != s.author)=true:=by simp [h2]
   cases h3: (decide (1≤s.b) && decide (s.b≤3))
   case false=>
    have HK:Hid (kindB s=false):=by show _=_;(try simp only [Bool.and_eq_false_iff,Bool.and_eq_true,decide_eq_false_iff_not,decide_eq_true_eq] at *);simp [kindB,keyB,k1,h2] <;> omega
    clear k1 h2
    go_enter Tryz.func68,Tryz.ntmps68
    go_wp2_with (first | (go_at_call 66;refine(listsIn_any _ _ _ _).mono ?_;(first | rw [h1] | rw [h3] | skip);rintro e w' ⟨rfl,rfl⟩) | fail)
    go_ret
    exact⟨by rw [HK.out];rfl,Ex.new _ _⟩
   cases h4: (decide (s.time≤s.c) && decide (s.c≤2147483648))
   case false=>
    have HK:Hid (kindB s=false):=by show _=_;(try simp only [Bool.and_eq_false_iff,Bool.and_eq_true,decide_eq_false_iff_not,decide_eq_true_eq] at *);simp [kindB,keyB,k1,h2] <;> omega
    clear k1 h2
    go_enter Tryz.func68,Tryz.ntmps68
    go_wp2_with (first | (go_at_call 66;refine(listsIn_any _ _ _ _).mono ?_;(first | rw [h1] | rw [h3] | rw [h4] | skip);rintro e w' ⟨rfl,rfl⟩) | fail)
    go_ret
    exact⟨by rw [HK.out];rfl,Ex.new _ _⟩
   case true=>
    have HK:Hid (kindB s=true):=by show _=_;(try simp only [Bool.and_eq_true,decide_eq_true_eq] at *);simp [kindB,keyB,k1,h2] <;> omega
    clear k1 h2
    go_enter Tryz.func68,Tryz.ntmps68
    go_wp2_with (first | (go_at_call 66;refine(listsIn_any _ _ _ _).mono ?_;(first | rw [h1] | rw [h3] | rw [h4] | skip);rintro e w' ⟨rfl,rfl⟩) | fail)
    go_ret
    exact⟨by rw [HK.out];rfl,Ex.new _ _⟩
 have k1d: (s.kind == 1)=false:=by simpa using k1
 by_cases k2:s.kind=2
 · have k2d: (s.kind == 2)=true:=by simp [k2]
   cases h1: (decide (0≤s.a) && decide (s.a≤199))
   case false=>
    have HK:Hid (kindB s=false):=by show _=_;(try simp only [Bool.and_eq_false_iff,decide_eq_false_iff_not] at *);simp [kindB,inB,k2] <;> omega
    clear k2
    go_enter Tryz.func68,Tryz.ntmps68
    go_wp2_with (first | (go_at_call 66;refine(listsIn_any _ _ _ _).mono ?_;(first | rw [h1] | skip);rintro e w' ⟨rfl,rfl⟩) | fail)
    go_ret
    exact⟨by rw [HK.out];rfl,Ex.new _ _⟩
   by_cases h2:s.b=0
   case neg=>
    have h2d: (s.b == 0)=false:=by simpa using h2
    have HK:Hid (kindB s=false):=by show _=_;(try simp only [Bool.and_eq_true,decide_eq_true_eq] at *);simp [kindB,inB,k2,h2] <;> omega
    clear k2 h2
    go_enter Tryz.func68,Tryz.ntmps68
    go_wp2_with (first | (go_at_call 66;refine(listsIn_any _ _ _ _).mono ?_;(first | rw [h1] | skip);rintro e w' ⟨rfl,rfl⟩) | fail)
    go_ret
    exact⟨by rw [HK.out];rfl,Ex.new _ _⟩
   have h2d: (s.b == 0)=true:=by simp [h2]
   by_cases h3:s.c=0
   case neg=>
    have h3d: (s.c == 0)=false:=by simpa using h3
    have HK:Hid (kindB s=false):=by show _=_;(try simp only [Bool.and_eq_true,decide_eq_true_eq] at *);simp [kindB,inB,k2,h2,h3] <;> omega
    clear k2 h2 h3
    go_enter Tryz.func68,Tryz.ntmps68
    go_wp2_with (first | (go_at_call 66;refine(listsIn_any _ _ _ _).mono ?_;(first | rw [h1] | skip);rintro e w' ⟨rfl,rfl⟩) | fail)
    go_ret
    exact⟨by rw [HK.out];rfl,Ex.new _ _⟩
   have h3d: (s.c == 0)=true:=by simp [h3]
   have HK:Hid (kindB s=true):=by show _=_;(try simp only [Bool.and_eq_true,decide_eq_true_eq] at *);simp [kindB,inB,k2,h2,h3] <;> omega
   clear k2 h2 h3
   go_enter Tryz.func68,Tryz.ntmps68
   go_wp2_with (first | (go_at_call 66;refine(listsIn_any _ _ _ _).mono ?_;(first | rw [h1] | skip);rintro e w' ⟨rfl,rfl⟩) | fail)
   go_ret
   exact⟨by rw [HK.out];rfl,Ex.new _ _⟩
 have k2d: (s.kind == 2)=false:=by simpa using k2
 by_cases k3:s.kind=3
 · have k3d: (s.kind == 3)=true:=by simp [k3]
   by_cases h1:s.a=0
   case neg=>
    have h1d: (s.a == 0)=false:=by simpa using h1
    have HK:Hid (kindB s=false):=by show _=_;(try simp only [Bool.and_eq_false_iff,Bool.and_eq_true,decide_eq_false_iff_not,decide_eq_true_eq] at *);simp [kindB,k3,h1] <;> omega
    clear k3 h1
    go_enter Tryz.func68,Tryz.ntmps68
    go_wp2_with (first | (go_at_call 66;refine(listsIn_any _ _ _ _).mono ?_;(first  | skip);rintro e w' ⟨rfl,rfl⟩) | fail)
    go_ret
    exact⟨by rw [HK.out];rfl,Ex.new _ _⟩
   have h1d: (s.a == 0)=true:=by simp [h1]
   by_cases h2:s.b=0
   case neg=>
    have h2d: (s.b == 0)=false:=by simpa using h2
    have HK:Hid (kindB s=false):=by show _=_;(try simp only [Bool.and_eq_false_iff,Bool.and_eq_true,decide_eq_false_iff_not,decide_eq_true_eq] at *);simp [kindB,k3,h1,h2] <;> omega
    clear k3 h1 h2
    go_enter Tryz.func68,Tryz.ntmps68
    go_wp2_with (first | (go_at_call 66;refine(listsIn_any _ _ _ _).mono ?_;(first  | skip);rintro e w' ⟨rfl,rfl⟩) | fail)
    go_ret
    exact⟨by rw [HK.out];rfl,Ex.new _ _⟩
   have h2d: (s.b == 0)=true:=by simp [h2]
   by_cases h3:s.c=0
   case neg=>
    have h3d: (s.c == 0)=false:=by simpa using h3
    have HK:Hid (kindB s=false):=by show _=_;(try simp only [Bool.and_eq_false_iff,Bool.and_eq_true,decide_eq_false_iff_not,decide_eq_true_eq] at *);simp [kindB,k3,h1,h2,h3] <;> omega
    clear k3 h1 h2 h3
    go_enter Tryz.func68,Tryz.ntmps68
    go_wp2_with (first | (go_at_call 66;refine(listsIn_any _ _ _ _).mono ?_;(first  | skip);rintro e w' ⟨rfl,rfl⟩) | fail)
    go_ret
    exact⟨by rw [HK.out];rfl,Ex.new _ _⟩
   have h3d: (s.c == 0)=true:=by simp [h3]
   have HK:Hid (kindB s=true):=by show _=_;(try simp only [Bool.and_eq_false_iff,Bool.and_eq_true,decide_eq_false_iff_not,decide_eq_true_eq] at *);simp [kindB,k3,h1,h2,h3] <;> omega
   clear k3 h1 h2 h3
   go_enter Tryz.func68,Tryz.ntmps68
   go_wp2_with (first | (go_at_call 66;refine(listsIn_any _ _ _ _).mono ?_;(first  | skip);rintro e w' ⟨rfl,rfl⟩) | fail)
   go_ret
   exact⟨by rw [HK.out];rfl,Ex.new _ _⟩
 have k3d: (s.kind == 3)=false:=by simpa using k3
 have HK:Hid (kindB s=true):=by show _=_;(try simp only [Bool.and_eq_false_iff,Bool.and_eq_true,decide_eq_false_iff_not,decide_eq_true_eq] at *);simp [kindB,k1,k2,k3] <;> omega
 clear k1 k2 k3
 go_enter Tryz.func68,Tryz.ntmps68
 go_wp2_with (first | (go_at_call 66;refine(listsIn_any _ _ _ _).mono ?_;(first  | skip);rintro e w' ⟨rfl,rfl⟩) | fail)
 go_ret
 exact⟨by rw [HK.out];rfl,Ex.new _ _⟩
def saidB (xs:List Int):Bool:=xs.all (fun x=>inB x 1099511627776)
set_option maxHeartbeats 1000000 in
theorem unsaid_any (n:Int) (w:World):Calls Tryz.prog 70 #[.int .i64 n] w fun e w'=>e=.returned (.bool (!inB n 1099511627776))∧w=w':=by
 go_enter Tryz.func70,Tryz.ntmps70
 cases h:inB n 1099511627776 with
 | true=>
   go_wp2_with (first | (go_at_call 67;refine(asB (valueAny_any _ _) h).mono ?_;rintro e w' ⟨rfl,rfl⟩) | fail)
   go_ret
   exact⟨rfl,rfl⟩
 | false=>
   go_wp2_with (first | (go_at_call 67;refine(asB (valueAny_any _ _) h).mono ?_;rintro e w' ⟨rfl,rfl⟩) | fail)
   go_ret
   exact⟨rfl,rfl⟩
set_option maxHeartbeats 1000000 in
theorem indexUnsaid_any (v:Value) (xs:List Int) (w:World) (hv:Ints w v xs) (hm:xs.length≤9223372036854775807) :
 Calls Tryz.prog 101 #[v,.func (.func 70) #[] #[]] w fun e w'=>∃i:Int,e=.returned (.int .i64 i)∧Hid (0≤i ↔ saidB xs=false)∧w=w':=by
 obtain⟨ao,cap,rfl,hx⟩:=hv
 go_enter Tryz.func101,Tryz.ntmps101
 go_wp2
 go_loop [5,8] (fun _ i=>∃k:Nat,k≤xs.length∧i=.int .i64 k∧Hid (saidB (xs.take k)=true)) (fun _ i=>xs.length - (intOf i).toNat)
 case atStart=>exact⟨0,Nat.zero_le _,rfl,Lib.hid rfl⟩
 case round=>
  obtain⟨k,hk,rfl,HN⟩:=hrel
  by_cases hlt:k < xs.length
  · have hltI: (k:Int) < (xs.length:Int):=by omega
    obtain⟨b,off,y,rfl,hck,HY⟩:=hx.get k hlt
    have HG:Hid (xs[k]? =some y):=by
     have:=HY.out
     simp only [List.getD_eq_getElem?_getD,List.getElem?_eq_getElem hlt,Option.getD_some] at this
     show _=_
     rw [List.getElem?_eq_getElem hlt,this]
    cases h:inB y 1099511627776 with
    | false=>
      have HR:Hid (saidB xs=false):=by
       show xs.all _=_
       rw [List.all_eq_false]
       exact⟨y,List.mem_of_getElem? HG.out,by simp [h]⟩
      go_wp2_with (first | (refine(unsaid_any y _).mono ?_;rw [h];rintro e w' ⟨rfl,rfl⟩) | fail)
      go_ret
      exact⟨_,rfl,(by rw [HR.out];simp:_ ↔ _),rfl⟩
    | true=>
      have HR:Hid (saidB (xs.take (k+1))=true):=by
       show _=_
       have hn:=HN.out
       unfold saidB at hn ⊢
       rw [List.take_add_one,HG.out,List.all_append,hn]
       simp [h]
      go_wp2_with (first | (refine(unsaid_any y _).mono ?_;rw [h];rintro e w' ⟨rfl,rfl⟩) | fail)
      go_round
      case rel=>exact⟨k+1,by omega,by go_num,HR⟩
      case measure=>simp [intOf] <;> omega
  · have hltI : ¬(k:Int) < (xs.length:Int):=by omega
    have HR:Hid (saidB xs=true):=by
     have h:=HN.out
     rwa [List.take_of_length_le (by omega)] at h
    go_wp2
    go_ret
    exact⟨_,rfl,(by rw [HR.out];simp:_ ↔ _),rfl⟩
set_option maxHeartbeats 1000000 in
theorem containsUnsaid_any (v:Value) (xs:List Int) (w:World) (hv:Ints w v xs) (hm:xs.length≤9223372036854775807) :
 Calls Tryz.prog 69 #[v,.func (.func 70) #[] #[]] w fun e w'=>e=.returned (.bool (!saidB xs))∧w=w':=by
 obtain⟨ao,cap,rfl,hx⟩:=hv
 go_enter Tryz.func69,Tryz.ntmps69
 go_wp2_with (go_at_call 101;refine(indexUnsaid_any _ xs _ ⟨_,_,rfl,hx⟩ hm).mono ?_;rintro e w' ⟨i,rfl,hi,rfl⟩)
 go_ret
 refine⟨ret_bool ?_,rfl⟩
 have h:=hi.out
 show decide (0≤i)=_
 rw [Bool.eq_iff_iff,decide_eq_true_eq,h]
 simp
set_option maxHeartbeats 8000000 in
set_option maxRecDepth 100000 in
theorem pinned_any {P:Nat→Prop} (v:Value) (l:List PinD) (w:World) (hv:Sl pinRep P w v l) (hm:l.length≤9223372036854775807) :
 Calls Tryz.prog 71 #[v] w fun e w'=>e=.returned (.bool (pinsB l))∧Ex w.heap.size none w w':=by
 obtain⟨ao,cap,rfl,hx⟩:=hv
 have HX:=Lib.hid hx
 clear hx
 go_enter Tryz.func71,Tryz.ntmps71
 go_wp2
 go_loopw [3,4,7] (fun _ _ i wr=>∃k:Nat,k≤l.length∧i=.int .i64 k∧Hid (pinsTo l k=true)∧Ex w.heap.size none w wr) (fun _ _ i _=>l.length - (intOf i).toNat)
 case atStart=>exact⟨0,Nat.zero_le _,rfl,rfl,Ex.refl _ _ _⟩
 case round=>
  obtain⟨k,hk,rfl,HT,hex⟩:=hrel
  have hsz:=hex.size
  by_cases hlt:k < l.length
  · obtain⟨b,off,p,rfl,_,hb,c0,c1,c2,HP⟩:=pin_get (HX.out.keep (by decide) (fun b _ hb=>hex.block b hb (by simp))) k hlt
    have HW:=Lib.hid hex
    clear hex
    by_cases a1:0≤p.1∧p.1≤63
    case neg=>
     have h1: (decide (0≤p.1) && decide (p.1≤63))=false:=by simp;omega
     have hkb:keyB p.1=false:=by simp [keyB];omega
     have HK:Hid (pinsB l=false):=pinsTo_no hlt (by unfold pinAt;rw [HP.out];simp [hkb])
     go_wp2_with fail
     go_quiet ((go_at_call 66;refine(listsIn_any _ _ _ _).mono ?_;(first | rw [h1] | rw [h3] | skip);exact fun _ _ h=>⟨h.1,_,h.2.symm⟩))
     go_wp2
     go_ret
     exact⟨by rw [HK.out];rfl,by (repeat(first | exact HW.out | refine Ex.drewN ?_ | refine Ex.drew ?_ | refine Ex.setCell ?_ _ none _ (.inr hsz) | refine Ex.alloc ?_ hsz _))⟩
    case pos=>
     have h1: (decide (0≤p.1) && decide (p.1≤63))=true:=by simp [a1]
     have hkb:keyB p.1=true:=by simp [keyB];omega
     by_cases h0:k=0
     · have h0d:decide (0 < k)=false:=by simp [h0]
       have HZ:=Lib.hid h0
       clear h0
       by_cases a3:1≤p.2.1∧p.2.1≤200
       · have h3: (decide (1≤p.2.1) && decide (p.2.1≤200))=true:=by simp [a3]
         by_cases h5:p.2.2.size=32
         · have h5d: (((p.2.2.size:Nat):Int) != 32)=false:=by simp [h5]
           have HK:Hid (pinAt l k=true):=(show _=_ by unfold pinAt;rw [HP.out];simp [hkb,HZ.out,a3,h5])
           go_wp2_with fail
           go_quiet ((go_at_call 66;refine(listsIn_any _ _ _ _).mono ?_;(first | rw [h1] | rw [h3] | skip);exact fun _ _ h=>⟨h.1,_,h.2.symm⟩))
           go_wp2
           go_roundw
           case rel=>exact⟨k+1,by omega,by go_num,(show _=_ by rw [pinsTo_succ,HT.out,HK.out];rfl),by (repeat(first | exact HW.out | refine Ex.drewN ?_ | refine Ex.drew ?_ | refine Ex.setCell ?_ _ none _ (.inr hsz) | refine Ex.alloc ?_ hsz _))⟩
           case measure=>simp [intOf] <;> omega
         · have h5d: (((p.2.2.size:Nat):Int) != 32)=true:=by simp;omega
           have HK:Hid (pinsB l=false):=pinsTo_no hlt (by unfold pinAt;rw [HP.out];simp [hkb,HZ.out,a3,h5])
           go_wp2_with fail
           go_quiet ((go_at_call 66;refine(listsIn_any _ _ _ _).mono ?_;(first | rw [h1] | rw [h3] | skip);exact fun _ _ h=>⟨h.1,_,h.2.symm⟩))
           go_wp2
           go_ret
           exact⟨by rw [HK.out];rfl,by (repeat(first | exact HW.out | refine Ex.drewN ?_ | refine Ex.drew ?_ | refine Ex.setCell ?_ _ none _ (.inr hsz) | refine Ex.alloc ?_ hsz _))⟩
       · have h3: (decide (1≤p.2.1) && decide (p.2.1≤200))=false:=by simp;omega
         have HK:Hid (pinsB l=false):=pinsTo_no hlt (by unfold pinAt;rw [HP.out];have hx : ¬1≤p.2.1∨ ¬p.2.1≤200:=(by omega);rcases hx with hx | hx <;> simp [hkb,HZ.out,hx])
         go_wp2_with fail
         go_quiet ((go_at_call 66;refine(listsIn_any _ _ _ _).mono ?_;(first | rw [h1] | rw [h3] | skip);exact fun _ _ h=>⟨h.1,_,h.2.symm⟩))
         go_wp2
         go_ret
         exact⟨by rw [HK.out];rfl,by (repeat(first | exact HW.out | refine Ex.drewN ?_ | refine Ex.drew ?_ | refine Ex.setCell ?_ _ none _ (.inr hsz) | refine Ex.alloc ?_ hsz _))⟩
     · have h0d:0 < k:=by omega
       obtain⟨i,hi⟩:∃i,i=k - 1:=⟨_,rfl⟩
       have hw1:IntKind.i64.wrap ((k:Int) - 1)=i:=by rw [show(k:Int) - 1=i by omega];exact IntWalk.i64_in _ (by omega)
       have hik: (i:Int) < (l.length:Int):=by omega
       obtain⟨b',off',q,e',_,hb',c0',_,_,HQ⟩:=pin_get (HX.out.keep (by decide) (fun b _ hb=>HW.out.block b hb (by simp))) i (by omega)
       cases e'
       have HI:Hid (l[k - 1]? =some q):=by rw [←hi];exact HQ
       clear hi
       by_cases h2:q.1 < p.1
       · have h2d:decide (p.1≤q.1)=false:=decide_eq_false (by omega)
         by_cases a3:1≤p.2.1∧p.2.1≤200
         · have h3: (decide (1≤p.2.1) && decide (p.2.1≤200))=true:=by simp [a3]
           by_cases h5:p.2.2.size=32
           · have h5d: (((p.2.2.size:Nat):Int) != 32)=false:=by simp [h5]
             have HK:Hid (pinAt l k=true):=(show _=_ by unfold pinAt;rw [HP.out];simp [hkb,h0,HI.out,h2,a3,h5])
             go_wp2_with fail
             go_quiet ((go_at_call 66;refine(listsIn_any _ _ _ _).mono ?_;(first | rw [h1] | rw [h3] | skip);exact fun _ _ h=>⟨h.1,_,h.2.symm⟩))
             go_wp2
             go_roundw
             case rel=>exact⟨k+1,by omega,by go_num,(show _=_ by rw [pinsTo_succ,HT.out,HK.out];rfl),by (repeat(first | exact HW.out | refine Ex.drewN ?_ | refine Ex.drew ?_ | refine Ex.setCell ?_ _ none _ (.inr hsz) | refine Ex.alloc ?_ hsz _))⟩
             case measure=>simp [intOf] <;> omega
           · have h5d: (((p.2.2.size:Nat):Int) != 32)=true:=by simp;omega
             have HK:Hid (pinsB l=false):=pinsTo_no hlt (by unfold pinAt;rw [HP.out];simp [hkb,h0,HI.out,h2,a3,h5])
             go_wp2_with fail
             go_quiet ((go_at_call 66;refine(listsIn_any _ _ _ _).mono ?_;(first | rw [h1] | rw [h3] | skip);exact fun _ _ h=>⟨h.1,_,h.2.symm⟩))
             go_wp2
             go_ret
             exact⟨by rw [HK.out];rfl,by (repeat(first | exact HW.out | refine Ex.drewN ?_ | refine Ex.drew ?_ | refine Ex.setCell ?_ _ none _ (.inr hsz) | refine Ex.alloc ?_ hsz _))⟩
         · have h3: (decide (1≤p.2.1) && decide (p.2.1≤200))=false:=by simp;omega
           have HK:Hid (pinsB l=false):=pinsTo_no hlt (by unfold pinAt;rw [HP.out];have hx : ¬1≤p.2.1∨ ¬p.2.1≤200:=(by omega);rcases hx with hx | hx <;> simp [hkb,h0,HI.out,h2,hx])
           go_wp2_with fail
           go_quiet ((go_at_call 66;refine(listsIn_any _ _ _ _).mono ?_;(first | rw [h1] | rw [h3] | skip);exact fun _ _ h=>⟨h.1,_,h.2.symm⟩))
           go_wp2
           go_ret
           exact⟨by rw [HK.out];rfl,by (repeat(first | exact HW.out | refine Ex.drewN ?_ | refine Ex.drew ?_ | refine Ex.setCell ?_ _ none _ (.inr hsz) | refine Ex.alloc ?_ hsz _))⟩
       · have h2d:decide (p.1≤q.1)=true:=decide_eq_true (by omega)
         have HK:Hid (pinsB l=false):=pinsTo_no hlt (by unfold pinAt;rw [HP.out];simp [hkb,h0,HI.out,h2])
         go_wp2_with fail
         go_quiet ((go_at_call 66;refine(listsIn_any _ _ _ _).mono ?_;(first | rw [h1] | rw [h3] | skip);exact fun _ _ h=>⟨h.1,_,h.2.symm⟩))
         go_wp2
         go_ret
         exact⟨by rw [HK.out];rfl,by (repeat(first | exact HW.out | refine Ex.drewN ?_ | refine Ex.drew ?_ | refine Ex.setCell ?_ _ none _ (.inr hsz) | refine Ex.alloc ?_ hsz _))⟩
  · obtain rfl:k=l.length:=by omega
    go_wp2
    go_ret
    exact⟨by rw [show pinsB l=true from HT.out];rfl,hex⟩
def cmpAND (x y:St×Sv×Sv):Int:=(([cmpI x.1.author y.1.author,cmpI x.1.number y.1.number,cmpS x.1.dig y.1.dig]).find? (· != 0)).getD 0
def cmpA (s t:St):Int:=(([cmpI s.author t.author,cmpI s.number t.number,cmpS s.dig t.dig]).find? (· != 0)).getD 0
def ltA (s t:St):Bool:=decide (s.author < t.author) || (decide (s.author=t.author) && ltNDs s t)
def followsB (s t:St):Bool:=decide (t.author=s.author) && decide (s.number < t.number) && decide (t.number=wrap64 (s.number+1)) && decide (t.prev=sha (stB s)) && decide (s.time≤t.time)
set_option maxHeartbeats 8000000 in
set_option maxRecDepth 100000 in
theorem follows04_any {P:Nat→Prop} (s t:St) (lo po lo' po' :Option Addr) (ln lc pn pc ln' lc' pn' pc' :Nat) (w:World) (hs:Lies P w (s,⟨lo,ln,lc⟩,⟨po,pn,pc⟩)) (ht:Tame s) :
 Calls Tryz.prog 81 #[.agg #[.int .i64 s.author,.int .i64 s.number,.string s.prev,.int .i64 s.time,.int .i64 s.kind,.int .i64 s.a,.int .i64 s.b,.int .i64 s.c,.slice lo ln lc,.slice po pn pc,.string s.body,.int .i64 s.key,.string s.dig],.agg #[.int .i64 t.author,.int .i64 t.number,.string t.prev,.int .i64 t.time,.int .i64 t.kind,.int .i64 t.a,.int .i64 t.b,.int .i64 t.c,.slice lo' ln' lc',.slice po' pn' pc',.string t.body,.int .i64 t.key,.string t.dig]] w fun e w'=>e=.returned (.bool (followsB s t))∧Ex w.heap.size none w w':=by
 have HT:=Lib.hid ht
 have HLS:=Lib.hid hs
 clear hs ht
 obtain⟨w0,hw0⟩:∃w0:World,w0= (w.alloc (.cells #[.int .i64 s.author,.int .i64 s.number,.string s.prev,.int .i64 s.time,.int .i64 s.kind,.int .i64 s.a,.int .i64 s.b,.int .i64 s.c,.slice lo ln lc,.slice po pn pc,.string s.body,.int .i64 s.key,.string s.dig] 51)).alloc (.cells #[.int .i64 t.author,.int .i64 t.number,.string t.prev,.int .i64 t.time,.int .i64 t.kind,.int .i64 t.a,.int .i64 t.b,.int .i64 t.c,.slice lo' ln' lc',.slice po' pn' pc',.string t.body,.int .i64 t.key,.string t.dig] 51):=⟨_,rfl⟩
 have hz0:w0.heap.size=w.heap.size+2:=by rw [hw0];simp
 have HE0:Hid (Ex w.heap.size none w w0):=by rw [hw0];exact ex_two0 _ _
 have HB0:Hid (w0.heap[w.heap.size]? =some (.cells #[.int .i64 s.author,.int .i64 s.number,.string s.prev,.int .i64 s.time,.int .i64 s.kind,.int .i64 s.a,.int .i64 s.b,.int .i64 s.c,.slice lo ln lc,.slice po pn pc,.string s.body,.int .i64 s.key,.string s.dig] 51 (0,0))∧w0.heap[w.heap.size+1]? =some (.cells #[.int .i64 t.author,.int .i64 t.number,.string t.prev,.int .i64 t.time,.int .i64 t.kind,.int .i64 t.a,.int .i64 t.b,.int .i64 t.c,.slice lo' ln' lc',.slice po' pn' pc',.string t.body,.int .i64 t.key,.string t.dig] 51 (0,0))):=Lib.hid (by
  rw [hw0]
  exact⟨((Ex.new _ _).block w.heap.size (by simp) (by simp)).trans (heap_alloc_new w _),by have:=heap_alloc_new (w.alloc (.cells #[.int .i64 s.author,.int .i64 s.number,.string s.prev,.int .i64 s.time,.int .i64 s.kind,.int .i64 s.a,.int .i64 s.b,.int .i64 s.c,.slice lo ln lc,.slice po pn pc,.string s.body,.int .i64 s.key,.string s.dig] 51)) (.cells #[.int .i64 t.author,.int .i64 t.number,.string t.prev,.int .i64 t.time,.int .i64 t.kind,.int .i64 t.a,.int .i64 t.b,.int .i64 t.c,.slice lo' ln' lc',.slice po' pn' pc',.string t.body,.int .i64 t.key,.string t.dig] 51);simpa using this⟩)
 have hq:=fun p0:ExW w0=>(st_block ((p0.ex.block w.heap.size (by omega) (by simp)).trans HB0.out.1)).1
 have hq':=fun p0:ExW w0=>(st_block ((p0.ex.block (w.heap.size+1) (by omega) (by simp)).trans HB0.out.2)).1
 have HD:Hid (∀p0:ExW w0,Calls Tryz.prog 53 #[.agg #[.int .i64 s.author,.int .i64 s.number,.string s.prev,.int .i64 s.time,.int .i64 s.kind,.int .i64 s.a,.int .i64 s.b,.int .i64 s.c,.slice lo ln lc,.slice po pn pc,.string s.body,.int .i64 s.key,.string s.dig]] p0.w' fun e w'=>e=.returned (.string (sha (stB s)))∧Ex p0.w'.heap.size none p0.w' w'):=fun p0=>digest03_any s lo po ln lc pn pc _ (HLS.out.keep fun b _ hb=>(HE0.out.trans p0.ex (by omega) (by simp)).block b hb (by simp)) HT.out
 have HQ:=Lib.hid hq
 have HQ':=Lib.hid hq'
 clear hq hq'
 go_enter Tryz.func81,Tryz.ntmps81
 go_upto_region 1 with(fail)
 rw [←hw0]
 clear hw0
 have hq:=HQ.out
 have hq':=HQ'.out
 by_cases c1:t.author=s.author
 · have c1d: (t.author == s.author)=true:=by simp [c1]
   have Kc1:Hid (decide (t.author=s.author)=true):=Lib.hid (decide_eq_true c1)
   clear c1
   by_cases c2:s.number < t.number
   · have c2d:decide (s.number < t.number)=true:=decide_eq_true c2
     have Kc2:Hid (decide (s.number < t.number)=true):=Lib.hid (decide_eq_true c2)
     clear c2
     by_cases c3:t.number=wrap64 (s.number+1)
     · have c3d: (t.number == wrap64 (s.number+1))=true:=by rw [c3];simp
       have Kc3:Hid (decide (t.number=wrap64 (s.number+1))=true):=Lib.hid (decide_eq_true c3)
       clear c3
       by_cases c4:t.prev=sha (stB s)
       · have c4d: (t.prev.toList == (sha (stB s)).toList)=true:=(bytes_beq c4).2
         have Kc4:Hid (decide (t.prev=sha (stB s))=true):=Lib.hid (decide_eq_true c4)
         clear c4
         have HR:Hid (followsB s t=decide (s.time≤t.time)):=Lib.hid (by simp only [followsB,Kc1.out,Kc2.out,Kc3.out,Kc4.out,Bool.true_and,Bool.and_true])
         refine wp_region_quiet_ex (by kernel_rfl) (by kernel_rfl) ?_
         repeat(go_big_quiet_step ((go_at_call 53;refine calls_ex_of (HD.out _))))
         refine wpQuiet_nil ?_
         intro _ hw'
         obtain⟨p9,hw''⟩:=hw'
         subst hw''
         clear hq hq'
         go_wp2
         go_ret
         exact⟨by rw [HR.out];rfl,HE0.out.trans p9.ex (by omega) (by simp)⟩
       · have c4d: (t.prev.toList == (sha (stB s)).toList)=false:=(bytes_nbeq c4).2
         have Kc4:Hid (decide (t.prev=sha (stB s))=false):=Lib.hid (decide_eq_false c4)
         clear c4
         have HR:Hid (followsB s t=false):=Lib.hid (by simp only [followsB,Kc1.out,Kc2.out,Kc3.out,Kc4.out,Bool.and_true,Bool.false_and,Bool.and_false])
         refine wp_region_quiet_ex (by kernel_rfl) (by kernel_rfl) ?_
         repeat(go_big_quiet_step ((go_at_call 53;refine calls_ex_of (HD.out _))))
         refine wpQuiet_nil ?_
         intro _ hw'
         obtain⟨p9,hw''⟩:=hw'
         subst hw''
         clear hq hq'
         go_wp2
         go_ret
         exact⟨by rw [HR.out];rfl,HE0.out.trans p9.ex (by omega) (by simp)⟩
     · have c3d: (t.number == wrap64 (s.number+1))=false:=by simp [c3]
       have Kc3:Hid (decide (t.number=wrap64 (s.number+1))=false):=Lib.hid (decide_eq_false c3)
       clear c3
       have HR:Hid (followsB s t=false):=Lib.hid (by simp only [followsB,Kc1.out,Kc2.out,Kc3.out,Bool.and_true,Bool.false_and,Bool.and_false])
       refine wp_region_quiet_ex (by kernel_rfl) (by kernel_rfl) ?_
       repeat(go_big_quiet_step (fail))
       refine wpQuiet_nil ?_
       intro _ hw'
       obtain⟨p9,hw''⟩:=hw'
       subst hw''
       clear hq hq'
       go_wp2
       go_ret
       exact⟨by rw [HR.out];rfl,HE0.out.trans p9.ex (by omega) (by simp)⟩
   · have c2d:decide (s.number < t.number)=false:=decide_eq_false c2
     have Kc2:Hid (decide (s.number < t.number)=false):=Lib.hid (decide_eq_false c2)
     clear c2
     have HR:Hid (followsB s t=false):=Lib.hid (by simp only [followsB,Kc1.out,Kc2.out,Bool.false_and,Bool.and_false])
     refine wp_region_quiet_ex (by kernel_rfl) (by kernel_rfl) ?_
     repeat(go_big_quiet_step (fail))
     refine wpQuiet_nil ?_
     intro _ hw'
     obtain⟨p9,hw''⟩:=hw'
     subst hw''
     clear hq hq'
     go_wp2
     go_ret
     exact⟨by rw [HR.out];rfl,HE0.out.trans p9.ex (by omega) (by simp)⟩
 · have c1d: (t.author == s.author)=false:=by simp [c1]
   have Kc1:Hid (decide (t.author=s.author)=false):=Lib.hid (decide_eq_false c1)
   clear c1
   have HR:Hid (followsB s t=false):=Lib.hid (by simp only [followsB,Kc1.out,Bool.false_and])
   refine wp_region_quiet_ex (by kernel_rfl) (by kernel_rfl) ?_
   repeat(go_big_quiet_step (fail))
   refine wpQuiet_nil ?_
   intro _ hw'
   obtain⟨p9,hw''⟩:=hw'
   subst hw''
   clear hq hq'
   go_wp2
   go_ret
   exact⟨by rw [HR.out];rfl,HE0.out.trans p9.ex (by omega) (by simp)⟩
end Go.Proofs.YtflhidfclfkjlaaGreat

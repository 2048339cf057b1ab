/- cmp.Compare at int: a contract, no statement of the seat. | cmp.Or at ints: a contract, no statement of the seat. | cmp.Compare at strings: a contract, no statement of the seat. | The insertion sort of the library keeps the order of equals: a plain law on the kit's own word 'Sort.insertionSort'. No program in sight. | The merge of the library's stable sort, in place, by rotations: plain laws on rows. No program in sight. | What the library's CompactFunc leaves of a row: plain laws. No program in sight. | Lemmas on CompactFunc at structs, for whatever program. No statement of the seat. | What the library's CompactFunc at trustflow/chain.link leans on of a program: so that its walks may be made over whatever program and number of cells. No statement of the seat. | slices.CompactFunc at trustflow/chain.link, over whatever program that bears it: a contract, no statement of the seat. | Worlds that have been drawn from and have grown, and no more. No statement of the seat. | The library's slices.SortFunc at trustflow/api.Vote: its laying by the shelf, in plain words. No statement of the seat. | What the library's CompactFunc at trustflow/api.Vote leans on of a program: so that its walks may be made over whatever program and number of cells. No statement of the seat. | slices.CompactFunc at trustflow/api.Vote, over whatever program that bears it: a contract, no statement of the seat. | The library's slices.SortFunc at trustflow/chain.link: its laying by the shelf, in plain words. No statement of the seat. | What CompactFunc leaves, under a map. Plain, no program in sight. | The library's slices.SortFunc at trustflow/api.Statement: its laying by the shelf, in plain words. No statement of the seat. | What the library's CompactFunc at trustflow/api.Statement leans on of a program: so that its walks may be made over whatever program and number of cells. No statement of the seat. | slices.CompactFunc at trustflow/api.Statement, over whatever program that bears it: a contract, no statement of the seat. -/
import Derived.Test.YtflhidfclfkjlaaGreatRows
import Derived.Test.YtflhidfclfkjlaaGreatMg00
import Derived.Sort.Grow
import Derived.Sort.LotA
import Derived.Shelf.SlSortCmp.WholeK
import Derived.Shelf.SlSortCmp.NoneTotal
namespace Go.Proofs.YtflhidfclfkjlaaGreat
open Go.RowKit
def cmpI (x y:Int):Int:=if x < y then -1 else if y < x then 1 else 0
theorem cmpI_zero {x y:Int}:cmpI x y=0 ↔ x=y:=by unfold cmpI;split <;> (try split) <;> omega
theorem isNaN_any (x:Int) (w:World):Calls Tryz.prog 87 #[.int .i64 x] w fun e w'=>e=.returned (.bool false)∧w=w':=by
 have h: (x != x)=false:=by simp
 go_enter Tryz.func87,Tryz.ntmps87
 go_wp2
 go_ret
 exact⟨rfl,rfl⟩
set_option maxHeartbeats 400000 in
theorem compare_any (x y:Int) (w:World):Calls Tryz.prog 58 #[.int .i64 x,.int .i64 y] w fun e w'=>e=.returned (.int .i64 (cmpI x y))∧w=w':=by
 by_cases h1:x < y
 · have d1:decide (x < y)=true:=decide_eq_true h1
   have HK:Hid (cmpI x y = -1):=by show _=_;simp [cmpI,h1]
   go_enter Tryz.func58,Tryz.ntmps58
   go_wp2_with (go_at_call 87;refine(isNaN_any _ _).mono ?_;rintro e w' ⟨rfl,rfl⟩)
   go_ret
   exact⟨by rw [HK.out];rfl,rfl⟩
 · have d1:decide (x < y)=false:=decide_eq_false h1
   by_cases h2:y < x
   · have d2:decide (y < x)=true:=decide_eq_true h2
     have HK:Hid (cmpI x y=1):=by show _=_;simp [cmpI,h1,h2]
     go_enter Tryz.func58,Tryz.ntmps58
     go_wp2_with (go_at_call 87;refine(isNaN_any _ _).mono ?_;rintro e w' ⟨rfl,rfl⟩)
     go_ret
     exact⟨by rw [HK.out];rfl,rfl⟩
   · have d2:decide (y < x)=false:=decide_eq_false h2
     have HK:Hid (cmpI x y=0):=by show _=_;simp [cmpI,h1,h2]
     go_enter Tryz.func58,Tryz.ntmps58
     go_wp2_with (go_at_call 87;refine(isNaN_any _ _).mono ?_;rintro e w' ⟨rfl,rfl⟩)
     go_ret
     exact⟨by rw [HK.out];rfl,rfl⟩
end Go.Proofs.YtflhidfclfkjlaaGreat
namespace Go.Proofs.YtflhidfclfkjlaaGreat
open Go.RowKit Go.Sort
def or3 (a b c:Int):Int:=if a=0 then(if b=0 then c else b) else a
set_option maxHeartbeats 1000000 in
theorem cmpOr_any (v:Value) (xs:List Int) (w:World) (hv:Ints w v xs) (hm:xs.length≤1000000):Calls Tryz.prog 57 #[v] w fun e w'=>e=.returned (.int .i64 ((xs.find? (· != 0)).getD 0))∧w=w':=by
 obtain⟨ao,cap,rfl,hx⟩:=hv
 go_enter Tryz.func57,Tryz.ntmps57
 go_wp2
 go_loop [8] (fun i=>∃k:Nat,k≤xs.length∧i=.int .i64 k∧Hid ((xs.take k).find? (· != 0)=none)) (fun i=>xs.length - (intOf i).toNat)
 case atStart=>exact⟨0,Nat.zero_le _,rfl,(show _=_ by simp)⟩
 case round=>
  obtain⟨k,hk,rfl,HN⟩:=hrel
  by_cases hlt:k < xs.length
  · obtain⟨b,off,y,rfl,hck,HY⟩:=hx.get k hlt
    have ht:xs.take (k+1)=xs.take k ++ [y]:=by
     rw [List.take_add_one,List.getElem?_eq_getElem hlt]
     have:=HY.out
     rw [List.getD_eq_getElem?_getD,List.getElem?_eq_getElem hlt] at this
     simp at this;simp [this]
    by_cases he:y=0
    · have hb: (y != 0)=false:=by simp [he]
      have HR:Hid ((xs.take (k+1)).find? (· != 0)=none):=by
       show _=_
       rw [ht,List.find?_append,HN.out];simp [he]
      clear he ht
      go_wp2
      go_round
      case rel=>exact⟨k+1,by omega,by go_num,HR⟩
      case measure=>simp [intOf];omega
    · have hb: (y != 0)=true:=by simp [he]
      have HR:Hid (xs.find? (· != 0)=some y):=by
       show _=_
       rw [←List.take_append_drop (k+1) xs,ht,List.find?_append,List.find?_append,HN.out];simp [he]
      clear he ht
      go_wp2
      go_ret
      exact⟨by rw [HR.out];rfl,rfl⟩
  · have HR:Hid (xs.find? (· != 0)=none):=by
     have h:=HN.out
     rwa [List.take_of_length_le (by omega)] at h
    go_wp2
    go_ret
    exact⟨by rw [HR.out];rfl,rfl⟩
end Go.Proofs.YtflhidfclfkjlaaGreat
namespace Go.Proofs.YtflhidfclfkjlaaGreat
open Go.RowKit Go.Sort
def lssS (x y:ByteArray):Bool:=Op.bytesLess x.toList y.toList
def cmpS (x y:ByteArray):Int:=if lssS x y then -1 else if x.toList == y.toList then 0 else 1
end Go.Proofs.YtflhidfclfkjlaaGreat
namespace Go.Proofs.YtflhidfclfkjlaaGreat
open Go.Sort
variable {α:Type} [Inhabited α]
def Kind (lt:α→α→Bool) (p:α→Bool):Prop:=∀x y,p x=true→p y=true→lt x y=false
end Go.Proofs.YtflhidfclfkjlaaGreat
namespace Go.Proofs.YtflhidfclfkjlaaGreat
open Go.Sort
variable {α:Type} [Inhabited α]
def rotIx (a m b t:Nat):Nat:=if a≤t∧t < a+ (b - m) then t+ (m - a) else if a+ (b - m)≤t∧t < b then t - (b - m) else t
def swIx (x y n t:Nat):Nat:=if x≤t∧t < x+n then t - x+y else if y≤t∧t < y+n then t - y+x else t
def By (f:Nat→Nat) (d d' :Array α):Prop:=d'.size=d.size∧∀t,t < d.size→d'[t]! =d[f t]!
structure SM (lt:α→α→Bool) (a b:Nat) (d d' :Array α):Prop where
 size:d'.size=d.size
 out:∀i,i < a∨b≤i→d'[i]! =d[i]!
 inn:∀i,a≤i→i < b→∃j,a≤j∧j < b∧d'[i]! =d[j]!
 perm:d'.toList.Perm d.toList
 kind:∀p,Kind lt p→d'.toList.filter p=d.toList.filter p
def CutLo (lt:α→α→Bool) (d:Array α) (p s0 s:Nat):Prop:=∀c,s0≤c→c < s→lt d[p - c]! d[c]! =false
def CutHi (lt:α→α→Bool) (d:Array α) (p r r0:Nat):Prop:=∀c,r≤c→c < r0→lt d[p - c]! d[c]! =true
structure CutAt (a m b p s0 r0:Nat):Prop where
 lo:a≤s0
 hi:r0≤m
 ord:s0≤r0
 top:p < s0+b
 bot:m+r0≤p+1
def OneLo (lt:α→α→Bool) (d:Array α) (a i:Nat):Prop:=∀h,a < h→h < i→lt d[h]! d[a]! =true
def OneHi (lt:α→α→Bool) (d:Array α) (a j b:Nat):Prop:=∀h,j≤h→h < b→lt d[h]! d[a]! =false
def EndLo (lt:α→α→Bool) (d:Array α) (m a i:Nat):Prop:=∀h,a≤h→h < i→lt d[m]! d[h]! =false
def EndHi (lt:α→α→Bool) (d:Array α) (m j:Nat):Prop:=∀h,j≤h→h < m→lt d[m]! d[h]! =true
end Go.Proofs.YtflhidfclfkjlaaGreat
namespace Go.Proofs.YtflhidfclfkjlaaGreat
open Go.Sort
variable {α:Type} [Inhabited α]
def stays (eq:α→α→Bool) (d:Array α) (j:Nat):Bool:=decide (j=0) || !eq d[j]! d[j - 1]!
def cpt (eq:α→α→Bool) (d:Array α):Nat→List α
 | 0=>[]
 | n+1=>if stays eq d n=true then cpt eq d n ++ [d[n]!] else cpt eq d n
theorem cpt_le (eq:α→α→Bool) (d:Array α) (n:Nat): (cpt eq d n).length≤n:=by
 induction n with
 | zero=>simp [cpt]
 | succ n ih=>rw [cpt];split
              · simp;omega
              · omega
theorem cpt_yes {eq:α→α→Bool} {d:Array α} {n:Nat} (h:stays eq d n=true):cpt eq d (n+1)=cpt eq d n ++ [d[n]!]:=by rw [cpt,if_pos h]
theorem cpt_no {eq:α→α→Bool} {d:Array α} {n:Nat} (h:stays eq d n=false):cpt eq d (n+1)=cpt eq d n:=by rw [cpt,if_neg (by simp [h])]
theorem stays_of {eq:α→α→Bool} {d:Array α} {n:Nat} (h0:0 < n) (b:Bool) (h:eq d[n]! d[n - 1]! =b):stays eq d n = !b:=by
 unfold stays
 rw [h,decide_eq_false (by omega)];rfl
theorem cpt_all {eq:α→α→Bool} {d:Array α} {n:Nat} (h:∀j,j < n→stays eq d j=true) (hn:n≤d.size):cpt eq d n=d.toList.take n:=by
 induction n with
 | zero=>simp [cpt]
 | succ n ih=>
   rw [cpt_yes (h n (by omega)),ih (fun j hj=>h j (by omega)) (by omega),List.take_add_one]
   congr 1
   rw [getElem!_pos d n (by omega)]
   simp [show n < d.size by omega]
structure CInv (eq:α→α→Bool) (d:Array α) (m kk:Nat) (dk:Array α):Prop where
 len: (cpt eq d m).length=kk
 lt:kk < m
 size:dk.size=d.size
 done:∀t,t < kk→dk[t]! = (cpt eq d m)[t]!
 rest:∀t,m - 1≤t→dk[t]! =d[t]!
theorem CInv.start {eq:α→α→Bool} {d:Array α} {k:Nat} (h:∀j,j < k→stays eq d j=true) (hk:stays eq d k=false) (hs:k < d.size):CInv eq d (k+1) k d:=by
 have e:cpt eq d (k+1)=d.toList.take k:=by rw [cpt_no hk,cpt_all h (by omega)]
 refine⟨by rw [e];simp;omega,by omega,rfl,fun t ht=>?_,fun _ _=>rfl⟩
 rw [e,getElem!_pos d t (by omega),getElem!_pos (d.toList.take k) t (by simp;omega)]
 simp
theorem CInv.skip {eq:α→α→Bool} {d dk:Array α} {m kk:Nat} (h:CInv eq d m kk dk) (hs:stays eq d m=false):CInv eq d (m+1) kk dk:=by
 refine⟨by rw [cpt_no hs];exact h.len,by have:=h.lt;omega,h.size,fun t ht=>by rw [cpt_no hs];exact h.done t ht,fun t ht=>h.rest t (by omega)⟩
theorem CInv.keep {eq:α→α→Bool} {d dk:Array α} {m kk:Nat} (h:CInv eq d m kk dk) (hs:stays eq d m=true) (hm:m < d.size):CInv eq d (m+1) (kk+1) (dk.setIfInBounds kk d[m]!):=by
 have hlt:=h.lt
 have hsz:=h.size
 have hl:=h.len
 refine⟨by rw [cpt_yes hs,List.length_append,hl];rfl,by omega,by simp [hsz],fun t ht=>?_,fun t ht=>?_⟩
 · rw [cpt_yes hs,getElem!_pos (dk.setIfInBounds kk d[m]!) t (by simp;omega),Array.getElem_setIfInBounds,getElem!_pos (cpt eq d m ++ [d[m]!]) t (by simp;omega)]
   · split
     · rename_i e
       subst e
       rw [List.getElem_append_right (by omega)]
       simp [hl]
     · rw [List.getElem_append_left (by omega),←getElem!_pos dk t (by omega),←getElem!_pos (cpt eq d m) t (by omega)]
       exact h.done t (by omega)
   · omega
 · by_cases c:t < d.size
   · have e: (dk.setIfInBounds kk d[m]!)[t]! =dk[t]! :=by
      rw [getElem!_pos (dk.setIfInBounds kk d[m]!) t (by simp;omega),Array.getElem_setIfInBounds,if_neg (by omega),←getElem!_pos dk t (by omega)]
      omega
     rw [e];exact h.rest t (by omega)
   · rw [getElem!_neg (dk.setIfInBounds kk d[m]!) t (by simp;omega),getElem!_neg d t c]
theorem CInv.head {eq:α→α→Bool} {d dk:Array α} {m kk:Nat} (h:CInv eq d m kk dk) (hm:m≤d.size): (cpt eq d m).toArray.size≤dk.size∧∀t,t < (cpt eq d m).toArray.size→(cpt eq d m).toArray[t]! =dk[t]! :=by
 have hl:=h.len
 have hlt:=h.lt
 have hs:=h.size
 refine⟨by simp [hl];omega,fun t ht=>?_⟩
 rw [h.done t (by simpa [hl] using ht)]
 simp
end Go.Proofs.YtflhidfclfkjlaaGreat
namespace Go.Proofs.YtflhidfclfkjlaaGreat
open Go.RowKit Go.Sort
theorem exGrowK {B:Nat} {w:World} (q:Nat) (os:Array Obj) (p:Option Nat) (hB:B≤w.heap.size):Ex B p w (grow (w.drewN q) os) :=
 ⟨rfl,rfl,rfl,by rw [size_grow];exact Nat.le_add_right _ _,fun k hk _=>heap_grow_old (w.drewN q) os (by exact Nat.lt_of_lt_of_le hk hB)⟩
variable {P:Program}
theorem shiftAtK (off k x y:Nat):off+x * k+y * k=off+ (x+y) * k:=by rw [Nat.add_mul];omega
theorem runClearK (w:World) (t e ty:TypeId) (z:Value) (k:Nat) (ht:P.underlying t=some (.slice e)) (hv:∀w,(zeroValue e).run P w=.ok z w) (hz:z.cells.size=k) (h1:∀v∈z.cells,v.oneCell' =true) (b o n c:Nat) (hn:0 < n)
 (hc:∀j,j < n * k→(w.cell? ⟨b,o+j,none⟩).isSome=true) (hf:∀j,j < n * k→w.frozen? ⟨b,o+j,none⟩=false) :
 (Builtin.clear_ #[t] ty #[.slice (some ⟨b,o,none⟩) n c]).run P w=.ok (.tuple #[]) (w.setCells b o (Builtin.zeroCells z.cells n).toList):=by
 have hl: (Builtin.zeroCells z.cells n).toList.length=n * k:=by simp [Builtin.zeroCells,hz]
 have hst:=run_storeCells_cells (P:=P) b o (Builtin.zeroCells z.cells n).toList 0 w (by rw [hl];simpa using hc) (by rw [hl];simpa using hf) (by
  intro v hv'
  simp only [Builtin.zeroCells,Array.toList_map,List.mem_map,Array.mem_toList_iff] at hv'
  obtain⟨i,hi,rfl⟩:=hv'
  by_cases hk:z.cells.size=0
  · simp [hk] at hi
  · rw [getElem!_pos z.cells _ (Nat.mod_lt _ (by omega))];exact h1 _ (Array.getElem_mem _))
 simp only [Nat.add_zero] at hst
 obtain⟨m,rfl⟩:∃m,n=m+1:=⟨n - 1,by omega⟩
 simp [Builtin.clear_,run_underlying ht,hv,hst]
end Go.Proofs.YtflhidfclfkjlaaGreat
namespace Go.Proofs.YtflhidfclfkjlaaGreat
open Go.RowKit Go.Sort
end Go.Proofs.YtflhidfclfkjlaaGreat
namespace Go.Proofs.YtflhidfclfkjlaaGreat
open Go.RowKit Go.Sort
variable {P:Program} {α:Type} [Inhabited α]
def EqAtLink (P:Program) (f:Nat) (cb:Array Value) (enc:α→List Value) (eq:α→α→Bool):Prop :=
 ∀(w:World) (x y:α),Calls P f (#[.agg (enc x).toArray,.agg (enc y).toArray] ++ cb) w fun e w'=>e=.returned (.bool (eq x y))∧∃q os',w' =grow (w.drewN q) os'
end Go.Proofs.YtflhidfclfkjlaaGreat
namespace Go.Proofs.YtflhidfclfkjlaaGreat
open Go.RowKit Go.Sort
def Gr (w w' :World):Prop:=∃q os,w' =grow (w.drewN q) os
theorem grow_drewN (w:World) (os:Array Obj) (q:Nat): (grow w os).drewN q=grow (w.drewN q) os:=rfl
theorem Gr.refl (w:World):Gr w w:=⟨0,#[],by rw [grow_empty];rfl⟩
theorem Gr.trans {a b c:World} (h:Gr a b) (k:Gr b c):Gr a c:=by
 obtain⟨q,os,rfl⟩:=h
 obtain⟨q',os',rfl⟩:=k
 exact⟨q+q',os ++ os',by rw [grow_drewN,grow_grow,drewN_add]⟩
theorem Gr.alloc {a w:World} (h:Gr a w) (o:Obj):Gr a (w.alloc o):=h.trans ⟨0,#[o],by rw [alloc_eq_grow];rfl⟩
theorem Gr.drew {a w:World} (h:Gr a w):Gr a w.drew:=h.trans ⟨1,#[],by rw [grow_empty];rfl⟩
theorem Gr.ex {w w' :World} (h:Gr w w'):Ex w.heap.size none w w':=by
 obtain⟨q,os,rfl⟩:=h
 exact⟨rfl,rfl,rfl,by rw [size_grow];exact Nat.le_add_right _ _,fun k hk _=>heap_grow_old (w.drewN q) os hk⟩
theorem Ex.at2 {B b:Nat} {w w' :World} {x:Obj} (h:Ex B none w w') (hB:w.heap.size≤B) (k:w.heap[b]? =some x):w'.heap[b]? =some x:=(h.block b (Nat.lt_of_lt_of_le (Array.getElem?_eq_some_iff.1 k).1 hB) (by simp)).trans k
end Go.Proofs.YtflhidfclfkjlaaGreat
namespace Go.Proofs
open Go.Shelf
def Tryz.pdqVo_ren:Go.Shelf.Ren:=⟨fun | 6=>96 | 15=>90 | 14=>128 | 28=>125 | 29=>126 | 20=>152 | 21=>153 | 22=>154 | 23=>155 | 24=>156 | 25=>157 | 26=>158 | 27=>159 | 46=>168 | 47=>140 | 48=>141 | 49=>169 | 50=>170 | 57=>172 | n=>n,fun | 22=>102 | 24=>106 | 25=>132 | 3=>3 | 39=>126 | 0=>0 | 53=>143 | 55=>145 | 4=>4 | 46=>153 | 45=>152 | 50=>157 | 5=>5 | 9=>9 | 66=>172 | 70=>176 | 76=>191 | 77=>192 | n=>n,fun | n=>n⟩
theorem Tryz.pdqVo:Go.Proofs.SlLaysF0.n6 Tryz.prog Tryz.pdqVo_ren:={
 mixed:=by kernel_rfl
 f6:=⟨Tryz.f96.name,by decide,Tryz.func96.trans (congrArg some (by kernel_rfl))⟩
 f14:=⟨Tryz.f128.name,by decide,Tryz.func128.trans (congrArg some (by kernel_rfl))⟩
 f15:=Tryz.func90.trans (congrArg some (by kernel_rfl))
 f20:=⟨Tryz.f152.name,by decide,Tryz.func152.trans (congrArg some (by kernel_rfl))⟩
 f21:=⟨Tryz.f153.name,by decide,Tryz.func153.trans (congrArg some (by kernel_rfl))⟩
 f22:=⟨Tryz.f154.name,by decide,Tryz.func154.trans (congrArg some (by kernel_rfl))⟩
 f23:=⟨Tryz.f155.name,by decide,Tryz.func155.trans (congrArg some (by kernel_rfl))⟩
 f24:=⟨Tryz.f156.name,by decide,Tryz.func156.trans (congrArg some (by kernel_rfl))⟩
 f25:=⟨Tryz.f157.name,by decide,Tryz.func157.trans (congrArg some (by kernel_rfl))⟩
 f26:=⟨Tryz.f158.name,by decide,Tryz.func158.trans (congrArg some (by kernel_rfl))⟩
 f27:=⟨Tryz.f159.name,by decide,Tryz.func159.trans (congrArg some (by kernel_rfl))⟩
 f28:=Tryz.func125.trans (congrArg some (by kernel_rfl))
 f29:=Tryz.func126.trans (congrArg some (by kernel_rfl))
 f46:=⟨Tryz.f168.name,by decide,Tryz.func168.trans (congrArg some (by kernel_rfl))⟩
 f47:=Tryz.func140.trans (congrArg some (by kernel_rfl))
 f48:=Tryz.func141.trans (congrArg some (by kernel_rfl))
 f49:=⟨Tryz.f169.name,by decide,Tryz.func169.trans (congrArg some (by kernel_rfl))⟩
 f50:=⟨Tryz.f170.name,by decide,Tryz.func170.trans (congrArg some (by kernel_rfl))⟩
 f57:=⟨Tryz.f172.name,by decide,Tryz.func172.trans (congrArg some (by kernel_rfl))⟩
 t0:=Tryz.underlying0
 a0:=Tryz.isAgg0
 z0:=Tryz.sizeOf0
 v0:=Tryz.zeroValue0
 t3:=Tryz.underlying3
 a3:=Tryz.isAgg3
 z3:=Tryz.sizeOf3
 v3:=Tryz.zeroValue3
 t4:=Tryz.underlying4
 a4:=Tryz.isAgg4
 z4:=Tryz.sizeOf4
 v4:=Tryz.zeroValue4
 t5:=Tryz.underlying5
 a5:=Tryz.isAgg5
 z5:=Tryz.sizeOf5
 v5:=Tryz.zeroValue5
 t9:=Tryz.underlying9
 a9:=Tryz.isAgg9
 z9:=Tryz.sizeOf9
 v9:=Tryz.zeroValue9
 t22:=Tryz.underlying102
 a22:=Tryz.isAgg102
 z22:=Tryz.sizeOf102
 v22:=Tryz.zeroValue102
 t25:=Tryz.underlying132
 a25:=Tryz.isAgg132
 z25:=Tryz.sizeOf132
 v25:=Tryz.zeroValue132
 t39:=Tryz.underlying126
 a39:=Tryz.isAgg126
 z39:=Tryz.sizeOf126
 v39:=Tryz.zeroValue126
 t45:=Tryz.underlying152
 a45:=Tryz.isAgg152
 z45:=Tryz.sizeOf152
 v45:=Tryz.zeroValue152
 t46:=Tryz.underlying153
 a46:=Tryz.isAgg153
 z46:=Tryz.sizeOf153
 v46:=Tryz.zeroValue153
 t50:=Tryz.underlying157
 a50:=Tryz.isAgg157
 z50:=Tryz.sizeOf157
 v50:=Tryz.zeroValue157
 t53:=Tryz.underlying143
 a53:=Tryz.isAgg143
 z53:=Tryz.sizeOf143
 v53:=Tryz.zeroValue143
 t55:=Tryz.underlying145
 a55:=Tryz.isAgg145
 z55:=Tryz.sizeOf145
 v55:=Tryz.zeroValue145
 t66:=Tryz.underlying172
 a66:=Tryz.isAgg172
 z66:=Tryz.sizeOf172
 v66:=Tryz.zeroValue172
 t70:=Tryz.underlying176
 a70:=Tryz.isAgg176
 z70:=Tryz.sizeOf176
 v70:=Tryz.zeroValue176
 t76:=Tryz.underlying191
 a76:=Tryz.isAgg191
 z76:=Tryz.sizeOf191
 v76:=Tryz.zeroValue191
 t77:=Tryz.underlying192
 a77:=Tryz.isAgg192
 z77:=Tryz.sizeOf192
 v77:=Tryz.zeroValue192 }
end Go.Proofs
namespace Go.Proofs.YtflhidfclfkjlaaGreat
open Go.RowKit Go.Sort
structure CLayVo (P:Program) (k:Nat):Prop where
 mixed:P.follows .mixedOrders=true
 t0:P.underlying 0=some (TypeDesc.tuple #[])
 a0:∀w,(isAgg 0).run P w=.ok false w
 z0:∀w,(Go.sizeOf 0).run P w=.ok 1 w
 v0:∀w,(zeroValue 0).run P w=.ok (Value.tuple #[]) w
 t1:P.underlying 3=some (TypeDesc.int IntKind.i64)
 a1:∀w,(isAgg 3).run P w=.ok false w
 z1:∀w,(Go.sizeOf 3).run P w=.ok 1 w
 v1:∀w,(zeroValue 3).run P w=.ok (Value.int IntKind.i64 0) w
 t2:P.underlying 4=some (TypeDesc.bool)
 a2:∀w,(isAgg 4).run P w=.ok false w
 z2:∀w,(Go.sizeOf 4).run P w=.ok 1 w
 v2:∀w,(zeroValue 4).run P w=.ok (Value.bool false) w
 t3:P.underlying 126=some (TypeDesc.int IntKind.u64)
 a3:∀w,(isAgg 126).run P w=.ok false w
 z3:∀w,(Go.sizeOf 126).run P w=.ok 1 w
 v3:∀w,(zeroValue 126).run P w=.ok (Value.int IntKind.u64 0) w
 t4:P.underlying 102=some (TypeDesc.slice 106)
 a4:∀w,(isAgg 102).run P w=.ok false w
 z4:∀w,(Go.sizeOf 102).run P w=.ok 1 w
 v4:∀w,(zeroValue 102).run P w=.ok (Value.slice none 0 0) w
 t5:P.underlying 132=some (TypeDesc.func #[106,106] #[3] false)
 a5:∀w,(isAgg 132).run P w=.ok false w
 z5:∀w,(Go.sizeOf 132).run P w=.ok 1 w
 v5:∀w,(zeroValue 132).run P w=.ok (Value.nilFunc) w
 aE:∀w,(isAgg 106).run P w=.ok true w
 zE:∀w,(Go.sizeOf 106).run P w=.ok k w
theorem clayVo:CLayVo Tryz.prog 7:={
 mixed:=by kernel_rfl
 t0:=Tryz.underlying0
 a0:=Tryz.isAgg0
 z0:=Tryz.sizeOf0
 v0:=Tryz.zeroValue0
 t1:=Tryz.underlying3
 a1:=Tryz.isAgg3
 z1:=Tryz.sizeOf3
 v1:=Tryz.zeroValue3
 t2:=Tryz.underlying4
 a2:=Tryz.isAgg4
 z2:=Tryz.sizeOf4
 v2:=Tryz.zeroValue4
 t3:=Tryz.underlying126
 a3:=Tryz.isAgg126
 z3:=Tryz.sizeOf126
 v3:=Tryz.zeroValue126
 t4:=Tryz.underlying102
 a4:=Tryz.isAgg102
 z4:=Tryz.sizeOf102
 v4:=Tryz.zeroValue102
 t5:=Tryz.underlying132
 a5:=Tryz.isAgg132
 z5:=Tryz.sizeOf132
 v5:=Tryz.zeroValue132
 aE:=Tryz.isAgg106
 zE:=Tryz.sizeOf106 }
end Go.Proofs.YtflhidfclfkjlaaGreat
namespace Go.Proofs.YtflhidfclfkjlaaGreat
open Go.RowKit Go.Sort
variable {P:Program} {α:Type} [Inhabited α]
set_option maxHeartbeats 8000000 in
set_option maxRecDepth 1000000 in
theorem compactWVo_any {k:Nat} (L:CLayVo P k) (enc:α→List Value) (hk:∀x,(enc x).length=k) (h1:∀x,∀v∈enc x,v.oneCell' =true) (eq:α→α→Bool) (f:Nat) (cb:Array Value)
 (ef:∀args w,(callFunc f args).run P w=.ok (.enter f args) w)
 (fC:P.funcs[97]? =some Tryz.f97)
 (z:Array Value) (hv:∀w,(zeroValue 106).run P w=.ok (.agg z) w) (hz:z.size=k) (hz1:∀v∈z,v.oneCell' =true)
 (_t6:P.underlying 135=some (TypeDesc.func #[106,106] #[4] false))
 (_a6:∀w,(isAgg 135).run P w=.ok false w) (_z6:∀w,(Go.sizeOf 135).run P w=.ok 1 w)
 (g off cap s:Nat) (d:Array α) (w:World) (hH:HoldsK enc k w g off d) (hg:g < w.heap.size) (hsz:d.size < 1000000000000) (hcap:d.size≤cap) (hs:d.size=s)
 (hcmp:∀w',Ex w.heap.size (some g) w w'→∀x y:α,Calls P f (#[.agg (enc x).toArray,.agg (enc y).toArray] ++ cb) w' fun e w''=>e=.returned (.bool (eq x y))∧∃q os',w'' =grow (w'.drewN q) os') :
 Calls P 97 #[.slice (some ⟨g,off,none⟩) s cap,.func (.func f) #[] cb] w fun e w'=>
  e=.returned (.slice (some ⟨g,off,none⟩) (cpt eq d s).length cap)∧HoldsK enc k w' g off (cpt eq d s).toArray∧Ex w.heap.size (some g) w w':=by
 subst hs
 have mixed:=L.mixed;have t0:=L.t0;have a0:=L.a0;have z0:=L.z0;have v0:=L.v0;have t1:=L.t1;have a1:=L.a1;have z1:=L.z1;have v1:=L.v1;have t2:=L.t2;have a2:=L.a2;have z2:=L.z2;have v2:=L.v2;have t3:=L.t3;have a3:=L.a3;have z3:=L.z3;have v3:=L.v3;have t4:=L.t4;have a4:=L.a4;have z4:=L.z4;have v4:=L.v4;have t5:=L.t5;have a5:=L.a5;have z5:=L.z5;have v5:=L.v5;have aE:=L.aE;have zE:=L.zE
 have u4:=run_underlying L.t4
 have HK:=Lib.hid hk
 have H1:=Lib.hid h1
 have HC:=Lib.hid hcmp
 have HHw:=Lib.hid hH
 have HZ:=Lib.hid (And.intro hv (And.intro hz hz1))
 have same:∀wr,(∀j,j < d.size→stays eq d j=true)→HoldsK enc k wr g off d→(cpt eq d d.size).length=d.size∧HoldsK enc k wr g off (cpt eq d d.size).toArray:=fun wr hall h=>by
  have e:=cpt_all hall (Nat.le_refl _)
  rw [e,List.take_of_length_le (by simp)]
  exact⟨by simp,by simpa using h⟩
 have SAME:=Lib.hid same
 clear hk h1 hcmp hH hv hz hz1 same
 by_cases h2:d.size < 2
 · go_enter fC,Tryz.ntmps97
   go_wp2
   go_ret
   obtain⟨e1,e2⟩:=SAME.out w (fun j hj=>by obtain rfl:j=0:=(by omega);rfl) HHw.out
   exact⟨by rw [e1];rfl,e2,Ex.refl _ _ _⟩
 · go_enter fC,Tryz.ntmps97
   go_wp2
   go_loopw [5] (fun s3 wr=>∃i:Nat,s3=.int .i64 i∧1≤i∧i≤d.size∧(∀j,j < i→stays eq d j=true)∧HoldsK enc k wr g off d∧Ex w.heap.size (some g) w wr) (fun s3 _=>d.size - (intOf s3).toNat)
   case atStart=>exact⟨1,rfl,Nat.le_refl _,by omega,fun j hj=>by obtain rfl:j=0:=(by omega);rfl,HHw.out,Ex.refl _ _ _⟩
   case round=>
    obtain⟨i,rfl,hi1,hi,hall,hHk,hex⟩:=hrel
    have HHk:=Lib.hid hHk
    have HA:=Lib.hid hall
    clear hHk hall
    have hsz':=hex.size
    by_cases hlt:i < d.size
    · obtain⟨ip,hip⟩:∃ip,ip=i - 1:=⟨_,rfl⟩
      have hwp:IntKind.i64.wrap ((i:Int) - 1)= (ip:Int):=by rw [IntKind.wrap_i64];omega
      have b1: (i:Int) < d.size:=by omega
      have b2: (ip:Int) < d.size:=by omega
      have HIP:=Lib.hid hip
      clear hip
      have hHc:∀n' os',HoldsK enc k (grow (wr.drewN n') os') g off d:=fun n' os'=>holdsK_grow enc k _ os' g off d (by show g < wr.heap.size;omega) (show HoldsK enc k (wr.drewN n') g off d from HHk.out)
      obtain⟨v1,hv1⟩:∃v,d[i]! =v:=⟨_,rfl⟩
      obtain⟨v2,hv2⟩:∃v,d[ip]! =v:=⟨_,rfl⟩
      have l1:∀n' os',Sem.run P (loadCellsFrom ⟨g,off+i * k,none⟩ 0 k #[]) (grow (wr.drewN n') os')=.ok (enc v1).toArray (grow (wr.drewN n') os'):=fun n' os'=>by
       rw [←hv1,show off+i * k=off+ (i) * k by rfl];exact run_loadCellsFrom_list P _ _ _ k (HK.out _) (HoldsK.cells (hHc n' os') HK.out (by omega))
      have l2:∀n' os',Sem.run P (loadCellsFrom ⟨g,off+ip * k,none⟩ 0 k #[]) (grow (wr.drewN n') os')=.ok (enc v2).toArray (grow (wr.drewN n') os'):=fun n' os'=>by
       rw [←hv2,show off+ip * k=off+ (ip) * k by rfl];exact run_loadCellsFrom_list P _ _ _ k (HK.out _) (HoldsK.cells (hHc n' os') HK.out (by omega))
      have hcg:∀n' os',Calls P f (#[.agg (enc v1).toArray,.agg (enc v2).toArray] ++ cb) (grow (wr.drewN n') os') fun e w'=>e=.returned (.bool (eq v1 v2))∧∃q os'',w' =grow ((grow (wr.drewN n') os').drewN q) os'':=fun n' os'=>HC.out _ (hex.trans (exGrowK n' os' none (Nat.le_refl _)) hsz' (by simp)) _ _
      have HV:Hid (d[i]! =v1∧d[ip]! =v2):=⟨hv1,hv2⟩
      clear hHc hv1 hv2
      by_cases hlv:eq v1 v2=true
      · simp only [hlv] at hcg
        go_wp2_with fail
        go_quiet_grown (first | (go_at_fn f;refine Calls.grown_of (hcg _ _)))
        have hc0:i≤cap:=by omega
        by_cases hce:cap=i
        · omega
        go_wp2
        obtain⟨wo,hwo⟩:∃wo:World,wo=grow (wr.drewN nq) osq:=⟨_,rfl⟩
        have hHo:HoldsK enc k wo g off d:=by rw [hwo];exact holdsK_grow enc k _ _ g off d (by show g < wr.heap.size;omega) (show HoldsK enc k (wr.drewN nq) g off d from HHk.out)
        have hexo:Ex w.heap.size (some g) w wo:=by rw [hwo];exact hex.trans (exGrowK nq osq none (Nat.le_refl _)) hsz' (by simp)
        rw [←hwo]
        have HHo:=Lib.hid hHo
        have HD0:Hid (stays eq d i=false):=by
         have:=stays_of (eq:=eq) (d:=d) (n:=i) (by omega) true (by rw [←HIP.out,HV.out.1,HV.out.2];exact hlv)
         exact this
        clear hHo hwo l1 l2 hcg hlv
        go_loopw [5,7] (fun s3 s5 wr=>∃(kk k2:Nat) (dk:Array α),s3=.int .i64 kk∧s5=.int .i64 k2∧1≤k2∧i+k2≤d.size∧CInv eq d (i+k2) kk dk∧HoldsK enc k wr g off dk∧Ex w.heap.size (some g) w wr) (fun _ s5 _=>d.size - (intOf s5).toNat)
        case atStart=>exact⟨i,1,d,rfl,rfl,Nat.le_refl _,by omega,CInv.start HA.out HD0.out hlt,HHo.out,hexo⟩
        case round=>
         clear HHk HHo HD0 hex hexo hsz' HV
         obtain⟨kk,k2,dk,rfl,rfl,h1,hle,hI,hHk,hex⟩:=hrel
         have hkk:=hI.lt
         have hds:=hI.size
         have HI:=Lib.hid hI
         have HHk:=Lib.hid hHk
         have HDS:=Lib.hid hds
         clear hI hHk hds
         have hsz':=hex.size
         by_cases hlt2:i+k2 < d.size
         · obtain⟨mp,hmp⟩:∃mp,mp=k2 - 1:=⟨_,rfl⟩
           have hwp2:IntKind.i64.wrap ((k2:Int) - 1)= (mp:Int):=by rw [IntKind.wrap_i64];omega
           have hl2: ((d.size - i:Nat):Int)= (d.size:Int) - i:=by omega
           have b3: (k2:Int) < (d.size:Int) - i:=by omega
           have b4: (mp:Int) < (d.size:Int) - i:=by omega
           have b5:k2 < d.size - i:=by omega
           have b6:mp < d.size - i:=by omega
           have hdz:dk.size=d.size:=HDS.out
           have HMP:=Lib.hid hmp
           have HDZ:=Lib.hid hdz
           clear hmp hdz
           have hHc:∀n' os',HoldsK enc k (grow (wr.drewN n') os') g off dk:=fun n' os'=>holdsK_grow enc k _ os' g off dk (by show g < wr.heap.size;omega) (show HoldsK enc k (wr.drewN n') g off dk from HHk.out)
           obtain⟨v1,hv1⟩:∃v,dk[i+k2]! =v:=⟨_,rfl⟩
           obtain⟨v2,hv2⟩:∃v,dk[i+mp]! =v:=⟨_,rfl⟩
           have l1:∀n' os',Sem.run P (loadCellsFrom ⟨g,off+i * k+k2 * k,none⟩ 0 k #[]) (grow (wr.drewN n') os')=.ok (enc v1).toArray (grow (wr.drewN n') os'):=fun n' os'=>by
            rw [←hv1,show off+i * k+k2 * k=off+ (i+k2) * k by exact shiftAtK _ _ _ _];exact run_loadCellsFrom_list P _ _ _ k (HK.out _) (HoldsK.cells (hHc n' os') HK.out (by have:=HDZ.out;omega))
           have l2:∀n' os',Sem.run P (loadCellsFrom ⟨g,off+i * k+mp * k,none⟩ 0 k #[]) (grow (wr.drewN n') os')=.ok (enc v2).toArray (grow (wr.drewN n') os'):=fun n' os'=>by
            rw [←hv2,show off+i * k+mp * k=off+ (i+mp) * k by exact shiftAtK _ _ _ _];exact run_loadCellsFrom_list P _ _ _ k (HK.out _) (HoldsK.cells (hHc n' os') HK.out (by have:=HDZ.out;omega))
           have hcg:∀n' os',Calls P f (#[.agg (enc v1).toArray,.agg (enc v2).toArray] ++ cb) (grow (wr.drewN n') os') fun e w'=>e=.returned (.bool (eq v1 v2))∧∃q os'',w' =grow ((grow (wr.drewN n') os').drewN q) os'':=fun n' os'=>HC.out _ (hex.trans (exGrowK n' os' none (Nat.le_refl _)) hsz' (by simp)) _ _
           have HV:Hid (dk[i+k2]! =v1∧dk[i+mp]! =v2):=⟨hv1,hv2⟩
           clear hHc hv1 hv2
           by_cases hlv:eq v1 v2=true
           · simp only [hlv] at hcg
             go_wp2_with fail
             go_quiet_grown (first | (go_at_fn f;refine Calls.grown_of (hcg _ _)))
             go_wp2
             go_roundw
             case rel=>exact⟨kk,k2+1,dk,rfl,by go_num,by omega,by omega,HI.out.skip (stays_of (by omega) true (by
              have e1:=HI.out.rest (i+k2) (by omega)
              have e2:=HI.out.rest (i+mp) (by have:=HMP.out;omega)
              rw [show i+k2 - 1=i+mp by have:=HMP.out;omega,←e1,←e2,HV.out.1,HV.out.2];exact hlv)),holdsK_grow enc k _ _ g off dk (by show g < wr.heap.size;omega) (show HoldsK enc k (wr.drewN nq) g off dk from HHk.out),hex.trans (exGrowK nq osq none (Nat.le_refl _)) hsz' (by simp)⟩
             case measure=>simp [intOf];omega
           · have hlv' :eq v1 v2=false:=by simpa using hlv
             simp only [hlv'] at hcg
             go_wp2_with fail
             go_quiet_grown (first | (go_at_fn f;refine Calls.grown_of (hcg _ _)))
             obtain⟨wq,hwq⟩:∃wq:World,wq=grow (wr.drewN nq) osq:=⟨_,rfl⟩
             have hHq:HoldsK enc k wq g off dk:=by rw [hwq];exact holdsK_grow enc k _ _ g off dk (by show g < wr.heap.size;omega) (show HoldsK enc k (wr.drewN nq) g off dk from HHk.out)
             have hexq:Ex w.heap.size (some g) w wq:=by rw [hwq];exact hex.trans (exGrowK nq osq none (Nat.le_refl _)) hsz' (by simp)
             have lq:Sem.run P (loadCellsFrom ⟨g,off+i * k+k2 * k,none⟩ 0 k #[]) wq=.ok (enc v1).toArray wq:=by rw [hwq];exact l1 nq osq
             rw [←hwq]
             have sq:Sem.run P (storeCells ⟨g,off+kk * k,none⟩ (enc v1) 0) wq=.ok () (wq.setCells g (off+kk * k) (enc v1)):=stores_of_holds P hHq (kk * k) _ (by
              rw [HK.out,size_flatK]
              have:=Nat.mul_le_mul_right k (show kk+1≤dk.size by have:=HDZ.out;omega);rwa [Nat.add_mul,Nat.one_mul] at this) (H1.out _)
             have hsV: (enc v1).length=k:=HK.out _
             have HQ:=Lib.hid hHq
             have hszq:=hexq.size
             clear l1 l2 hcg hwq hHq
             obtain⟨cV,hcV⟩:∃c,c=enc v1:=⟨_,rfl⟩
             rw [←hcV] at lq sq hsV
             have CC:=Lib.hid hcV
             clear hcV
             have b7: (kk:Int) < d.size:=by omega
             go_wp2
             go_roundw
             case rel=>
              have e1:=HI.out.rest (i+k2) (by omega)
              have e2:=HI.out.rest (i+mp) (by have:=HMP.out;omega)
              have hk:=HI.out.keep (stays_of (by omega) false (by
               rw [show i+k2 - 1=i+mp by have:=HMP.out;omega,←e1,←e2,HV.out.1,HV.out.2];exact hlv')) hlt2
              rw [←e1,HV.out.1] at hk
              refine⟨kk+1,k2+1,dk.setIfInBounds kk v1,by go_num,by go_num,by omega,by omega,hk,?_,hexq.trans (ex_setCells wq g (off+kk * k) cV) hszq (fun q e _=>by cases e;rfl)⟩
              rw [CC.out]
              exact holdsK_set HK.out HQ.out kk v1 (by have:=HDZ.out;omega)
             case measure=>simp [intOf];omega
         · obtain⟨n,hn⟩:∃n,n=d.size:=⟨_,rfl⟩
           have hend:i+k2=d.size:=by omega
           have hdz:dk.size=d.size:=HDS.out
           have hcl:∀ty,(Builtin.clear_ #[102] ty #[.slice (some ⟨g,off+kk * k,none⟩) (d.size - kk) (cap - kk)]).run P wr=.ok (.tuple #[]) (wr.setCells g (off+kk * k) (Builtin.zeroCells z (d.size - kk)).toList) :=
            fun ty=>runClearK wr _ _ ty (.agg z) k L.t4 HZ.out.1 HZ.out.2.1 HZ.out.2.2 g (off+kk * k) _ _ (by omega) (fun j hj=>by
             have:=(HHk.out (kk * k+j) (by rw [size_flatK,hdz];have:=Nat.add_mul kk (d.size - kk) k;rw [show kk+ (d.size - kk)=d.size by omega] at this;omega)).1
             rw [Nat.add_assoc,this];rfl) (fun j hj=>by
             have:=(HHk.out (kk * k+j) (by rw [size_flatK,hdz];have:=Nat.add_mul kk (d.size - kk) k;rw [show kk+ (d.size - kk)=d.size by omega] at this;omega)).2
             rw [Nat.add_assoc];exact this)
           have hexc:=hex.trans (ex_setCells wr g (off+kk * k) (Builtin.zeroCells z (d.size - kk)).toList) hsz' (fun q e _=>by cases e;rfl)
           have hfin:HoldsK enc k (wr.setCells g (off+kk * k) (Builtin.zeroCells z (d.size - kk)).toList) g off (cpt eq d d.size).toArray:=by
            have hI:=HI.out
            rw [hend] at hI
            obtain⟨h1,h2⟩:=hI.head (Nat.le_refl _)
            exact holdsK_behind (holdsK_first HHk.out h1 h2) _ _ (by simp [hI.len])
           have hlen: (cpt eq d d.size).length=kk:=by have:=HI.out.len;rwa [hend] at this
           have FIN:=Lib.hid (And.intro hexc (And.intro hfin hlen))
           have b7: (kk:Int)≤d.size:=by omega
           have b8 : ¬(k2:Int) < (d.size:Int) - i:=by omega
           have b9 : ¬k2 < d.size - i:=by omega
           have b10: (kk:Int)≤cap:=by omega
           have b11:kk≤cap:=by omega
           have b12:kk≤d.size:=by omega
           have b13 : ¬cap=kk:=by omega
           clear hexc hfin hlen hend hdz hn
           go_wp2
           go_ret
           exact⟨by rw [FIN.out.2.2];rfl,FIN.out.2.1,FIN.out.1⟩
      · have hlv' :eq v1 v2=false:=by simpa using hlv
        simp only [hlv'] at hcg
        go_wp2_with fail
        go_quiet_grown (first | (go_at_fn f;refine Calls.grown_of (hcg _ _)))
        go_wp2
        go_roundw
        case rel=>exact⟨i+1,by go_num,by omega,by omega,fun j hj=>by
         by_cases e:j=i
         · subst e
           exact stays_of (by omega) false (by rw [←HIP.out,HV.out.1,HV.out.2];exact hlv')
         · exact HA.out j (by omega),holdsK_grow enc k _ _ g off d (by show g < wr.heap.size;omega) (show HoldsK enc k (wr.drewN nq) g off d from HHk.out),hex.trans (exGrowK nq osq none (Nat.le_refl _)) hsz' (by simp)⟩
        case measure=>simp [intOf];omega
    · obtain rfl:i=d.size:=by omega
      go_wp2
      go_ret
      obtain⟨e1,e2⟩:=SAME.out wr HA.out HHk.out
      exact⟨by rw [e1];rfl,e2,hex⟩
end Go.Proofs.YtflhidfclfkjlaaGreat
namespace Go.Proofs
open Go.Shelf
end Go.Proofs
namespace Go.Proofs.YtflhidfclfkjlaaGreat
open Go.Sort
variable {α β:Type} [Inhabited α] [Inhabited β]
theorem map_get! (f:α→β) (d:Array α) (i:Nat) (h:i < d.size): (d.map f)[i]! =f d[i]! :=by
 rw [getElem!_pos (d.map f) i (by simpa using h),getElem!_pos d i h];simp
theorem stays_map (f:α→β) {eq:α→α→Bool} {eq' :β→β→Bool} (h:∀x y,eq x y=eq' (f x) (f y)) (d:Array α) (j:Nat) (hj:j < d.size):stays eq d j=stays eq' (d.map f) j:=by
 unfold stays
 rw [map_get! f d j hj,map_get! f d (j - 1) (by omega),h]
theorem cpt_map (f:α→β) {eq:α→α→Bool} {eq' :β→β→Bool} (h:∀x y,eq x y=eq' (f x) (f y)) (d:Array α):∀n,n≤d.size→(cpt eq d n).map f=cpt eq' (d.map f) n:=by
 intro n
 induction n with
 | zero=>exact fun _=>rfl
 | succ n ih=>
   intro hn
   have e:=stays_map f h d n (by omega)
   cases hs:stays eq d n with
   | true=>rw [cpt_yes hs,cpt_yes (by rw [←e];exact hs),List.map_append,ih (by omega),List.map_cons,List.map_nil,map_get! f d n (by omega)]
   | false=>rw [cpt_no hs,cpt_no (by rw [←e];exact hs),ih (by omega)]
theorem cpt_mem {eq:α→α→Bool} {d:Array α} {x:α}:∀n,n≤d.size→x∈cpt eq d n→x∈d.toList:=by
 intro n
 induction n with
 | zero=>exact fun _ h=>by cases h
 | succ n ih=>
   intro hn h
   cases hs:stays eq d n with
   | true=>
     rw [cpt_yes hs,List.mem_append,List.mem_singleton] at h
     rcases h with h | h
     · exact ih (by omega) h
     · subst h
       rw [getElem!_pos d n (by omega)]
       simp
   | false=>rw [cpt_no hs] at h;exact ih (by omega) h
theorem permIn_list {d d' :Array α} (h:PermIn 0 d.size d d'):d'.toList.Perm d.toList:=by
 obtain⟨hs,_,hp⟩:=h
 have e:d'.extract 0 d.size=d':=by rw [←hs];exact Array.extract_size
 rw [e,Array.extract_size] at hp
 exact hp
end Go.Proofs.YtflhidfclfkjlaaGreat
namespace Go.Proofs
open Go.Shelf
def Tryz.pdqSt_ren:Go.Shelf.Ren:=⟨fun | 6=>60 | 15=>90 | 14=>89 | 28=>125 | 29=>126 | 20=>117 | 21=>118 | 22=>119 | 23=>120 | 24=>121 | 25=>122 | 26=>123 | 27=>124 | 46=>139 | 47=>140 | 48=>141 | 49=>142 | 50=>143 | 57=>164 | n=>n,fun | 22=>27 | 24=>51 | 25=>98 | 3=>3 | 39=>126 | 0=>0 | 53=>143 | 55=>145 | 4=>4 | 46=>153 | 45=>152 | 50=>157 | 5=>5 | 9=>9 | 66=>172 | 70=>176 | 76=>191 | 77=>192 | n=>n,fun | n=>n⟩
theorem Tryz.pdqSt:Go.Proofs.SlLaysF0.n6 Tryz.prog Tryz.pdqSt_ren:={
 mixed:=by kernel_rfl
 f6:=⟨Tryz.f60.name,by decide,Tryz.func60.trans (congrArg some (by kernel_rfl))⟩
 f14:=⟨Tryz.f89.name,by decide,Tryz.func89.trans (congrArg some (by kernel_rfl))⟩
 f15:=Tryz.func90.trans (congrArg some (by kernel_rfl))
 f20:=⟨Tryz.f117.name,by decide,Tryz.func117.trans (congrArg some (by kernel_rfl))⟩
 f21:=⟨Tryz.f118.name,by decide,Tryz.func118.trans (congrArg some (by kernel_rfl))⟩
 f22:=⟨Tryz.f119.name,by decide,Tryz.func119.trans (congrArg some (by kernel_rfl))⟩
 f23:=⟨Tryz.f120.name,by decide,Tryz.func120.trans (congrArg some (by kernel_rfl))⟩
 f24:=⟨Tryz.f121.name,by decide,Tryz.func121.trans (congrArg some (by kernel_rfl))⟩
 f25:=⟨Tryz.f122.name,by decide,Tryz.func122.trans (congrArg some (by kernel_rfl))⟩
 f26:=⟨Tryz.f123.name,by decide,Tryz.func123.trans (congrArg some (by kernel_rfl))⟩
 f27:=⟨Tryz.f124.name,by decide,Tryz.func124.trans (congrArg some (by kernel_rfl))⟩
 f28:=Tryz.func125.trans (congrArg some (by kernel_rfl))
 f29:=Tryz.func126.trans (congrArg some (by kernel_rfl))
 f46:=⟨Tryz.f139.name,by decide,Tryz.func139.trans (congrArg some (by kernel_rfl))⟩
 f47:=Tryz.func140.trans (congrArg some (by kernel_rfl))
 f48:=Tryz.func141.trans (congrArg some (by kernel_rfl))
 f49:=⟨Tryz.f142.name,by decide,Tryz.func142.trans (congrArg some (by kernel_rfl))⟩
 f50:=⟨Tryz.f143.name,by decide,Tryz.func143.trans (congrArg some (by kernel_rfl))⟩
 f57:=⟨Tryz.f164.name,by decide,Tryz.func164.trans (congrArg some (by kernel_rfl))⟩
 t0:=Tryz.underlying0
 a0:=Tryz.isAgg0
 z0:=Tryz.sizeOf0
 v0:=Tryz.zeroValue0
 t3:=Tryz.underlying3
 a3:=Tryz.isAgg3
 z3:=Tryz.sizeOf3
 v3:=Tryz.zeroValue3
 t4:=Tryz.underlying4
 a4:=Tryz.isAgg4
 z4:=Tryz.sizeOf4
 v4:=Tryz.zeroValue4
 t5:=Tryz.underlying5
 a5:=Tryz.isAgg5
 z5:=Tryz.sizeOf5
 v5:=Tryz.zeroValue5
 t9:=Tryz.underlying9
 a9:=Tryz.isAgg9
 z9:=Tryz.sizeOf9
 v9:=Tryz.zeroValue9
 t22:=Tryz.underlying27
 a22:=Tryz.isAgg27
 z22:=Tryz.sizeOf27
 v22:=Tryz.zeroValue27
 t25:=Tryz.underlying98
 a25:=Tryz.isAgg98
 z25:=Tryz.sizeOf98
 v25:=Tryz.zeroValue98
 t39:=Tryz.underlying126
 a39:=Tryz.isAgg126
 z39:=Tryz.sizeOf126
 v39:=Tryz.zeroValue126
 t45:=Tryz.underlying152
 a45:=Tryz.isAgg152
 z45:=Tryz.sizeOf152
 v45:=Tryz.zeroValue152
 t46:=Tryz.underlying153
 a46:=Tryz.isAgg153
 z46:=Tryz.sizeOf153
 v46:=Tryz.zeroValue153
 t50:=Tryz.underlying157
 a50:=Tryz.isAgg157
 z50:=Tryz.sizeOf157
 v50:=Tryz.zeroValue157
 t53:=Tryz.underlying143
 a53:=Tryz.isAgg143
 z53:=Tryz.sizeOf143
 v53:=Tryz.zeroValue143
 t55:=Tryz.underlying145
 a55:=Tryz.isAgg145
 z55:=Tryz.sizeOf145
 v55:=Tryz.zeroValue145
 t66:=Tryz.underlying172
 a66:=Tryz.isAgg172
 z66:=Tryz.sizeOf172
 v66:=Tryz.zeroValue172
 t70:=Tryz.underlying176
 a70:=Tryz.isAgg176
 z70:=Tryz.sizeOf176
 v70:=Tryz.zeroValue176
 t76:=Tryz.underlying191
 a76:=Tryz.isAgg191
 z76:=Tryz.sizeOf191
 v76:=Tryz.zeroValue191
 t77:=Tryz.underlying192
 a77:=Tryz.isAgg192
 z77:=Tryz.sizeOf192
 v77:=Tryz.zeroValue192 }
end Go.Proofs
namespace Go.Proofs.YtflhidfclfkjlaaGreat
open Go.RowKit Go.Sort
structure CLaySt (P:Program) (k:Nat):Prop where
 mixed:P.follows .mixedOrders=true
 t0:P.underlying 0=some (TypeDesc.tuple #[])
 a0:∀w,(isAgg 0).run P w=.ok false w
 z0:∀w,(Go.sizeOf 0).run P w=.ok 1 w
 v0:∀w,(zeroValue 0).run P w=.ok (Value.tuple #[]) w
 t1:P.underlying 3=some (TypeDesc.int IntKind.i64)
 a1:∀w,(isAgg 3).run P w=.ok false w
 z1:∀w,(Go.sizeOf 3).run P w=.ok 1 w
 v1:∀w,(zeroValue 3).run P w=.ok (Value.int IntKind.i64 0) w
 t2:P.underlying 4=some (TypeDesc.bool)
 a2:∀w,(isAgg 4).run P w=.ok false w
 z2:∀w,(Go.sizeOf 4).run P w=.ok 1 w
 v2:∀w,(zeroValue 4).run P w=.ok (Value.bool false) w
 t3:P.underlying 126=some (TypeDesc.int IntKind.u64)
 a3:∀w,(isAgg 126).run P w=.ok false w
 z3:∀w,(Go.sizeOf 126).run P w=.ok 1 w
 v3:∀w,(zeroValue 126).run P w=.ok (Value.int IntKind.u64 0) w
 t4:P.underlying 27=some (TypeDesc.slice 51)
 a4:∀w,(isAgg 27).run P w=.ok false w
 z4:∀w,(Go.sizeOf 27).run P w=.ok 1 w
 v4:∀w,(zeroValue 27).run P w=.ok (Value.slice none 0 0) w
 t5:P.underlying 98=some (TypeDesc.func #[51,51] #[3] false)
 a5:∀w,(isAgg 98).run P w=.ok false w
 z5:∀w,(Go.sizeOf 98).run P w=.ok 1 w
 v5:∀w,(zeroValue 98).run P w=.ok (Value.nilFunc) w
 aE:∀w,(isAgg 51).run P w=.ok true w
 zE:∀w,(Go.sizeOf 51).run P w=.ok k w
theorem claySt:CLaySt Tryz.prog 13:={
 mixed:=by kernel_rfl
 t0:=Tryz.underlying0
 a0:=Tryz.isAgg0
 z0:=Tryz.sizeOf0
 v0:=Tryz.zeroValue0
 t1:=Tryz.underlying3
 a1:=Tryz.isAgg3
 z1:=Tryz.sizeOf3
 v1:=Tryz.zeroValue3
 t2:=Tryz.underlying4
 a2:=Tryz.isAgg4
 z2:=Tryz.sizeOf4
 v2:=Tryz.zeroValue4
 t3:=Tryz.underlying126
 a3:=Tryz.isAgg126
 z3:=Tryz.sizeOf126
 v3:=Tryz.zeroValue126
 t4:=Tryz.underlying27
 a4:=Tryz.isAgg27
 z4:=Tryz.sizeOf27
 v4:=Tryz.zeroValue27
 t5:=Tryz.underlying98
 a5:=Tryz.isAgg98
 z5:=Tryz.sizeOf98
 v5:=Tryz.zeroValue98
 aE:=Tryz.isAgg51
 zE:=Tryz.sizeOf51 }
end Go.Proofs.YtflhidfclfkjlaaGreat
namespace Go.Proofs.YtflhidfclfkjlaaGreat
open Go.RowKit Go.Sort
variable {P:Program} {α:Type} [Inhabited α]
set_option maxHeartbeats 8000000 in
set_option maxRecDepth 1000000 in
theorem compactWSt_any {k:Nat} (L:CLaySt P k) (enc:α→List Value) (hk:∀x,(enc x).length=k) (h1:∀x,∀v∈enc x,v.oneCell' =true) (eq:α→α→Bool) (f:Nat) (cb:Array Value)
 (ef:∀args w,(callFunc f args).run P w=.ok (.enter f args) w)
 (fC:P.funcs[61]? =some Tryz.f61)
 (z:Array Value) (hv:∀w,(zeroValue 51).run P w=.ok (.agg z) w) (hz:z.size=k) (hz1:∀v∈z,v.oneCell' =true)
 (_t6:P.underlying 86=some (TypeDesc.func #[51,51] #[4] false))
 (_a6:∀w,(isAgg 86).run P w=.ok false w) (_z6:∀w,(Go.sizeOf 86).run P w=.ok 1 w)
 (g off cap s:Nat) (d:Array α) (w:World) (hH:HoldsK enc k w g off d) (hg:g < w.heap.size) (hsz:d.size < 1000000000000) (hcap:d.size≤cap) (hs:d.size=s)
 (hcmp:∀w',Ex w.heap.size (some g) w w'→∀x y:α,Calls P f (#[.agg (enc x).toArray,.agg (enc y).toArray] ++ cb) w' fun e w''=>e=.returned (.bool (eq x y))∧∃q os',w'' =grow (w'.drewN q) os') :
 Calls P 61 #[.slice (some ⟨g,off,none⟩) s cap,.func (.func f) #[] cb] w fun e w'=>
  e=.returned (.slice (some ⟨g,off,none⟩) (cpt eq d s).length cap)∧HoldsK enc k w' g off (cpt eq d s).toArray∧Ex w.heap.size (some g) w w':=by
 subst hs
 have mixed:=L.mixed;have t0:=L.t0;have a0:=L.a0;have z0:=L.z0;have v0:=L.v0;have t1:=L.t1;have a1:=L.a1;have z1:=L.z1;have v1:=L.v1;have t2:=L.t2;have a2:=L.a2;have z2:=L.z2;have v2:=L.v2;have t3:=L.t3;have a3:=L.a3;have z3:=L.z3;have v3:=L.v3;have t4:=L.t4;have a4:=L.a4;have z4:=L.z4;have v4:=L.v4;have t5:=L.t5;have a5:=L.a5;have z5:=L.z5;have v5:=L.v5;have aE:=L.aE;have zE:=L.zE
 have u4:=run_underlying L.t4
 have HK:=Lib.hid hk
 have H1:=Lib.hid h1
 have HC:=Lib.hid hcmp
 have HHw:=Lib.hid hH
 have HZ:=Lib.hid (And.intro hv (And.intro hz hz1))
 have same:∀wr,(∀j,j < d.size→stays eq d j=true)→HoldsK enc k wr g off d→(cpt eq d d.size).length=d.size∧HoldsK enc k wr g off (cpt eq d d.size).toArray:=fun wr hall h=>by
  have e:=cpt_all hall (Nat.le_refl _)
  rw [e,List.take_of_length_le (by simp)]
  exact⟨by simp,by simpa using h⟩
 have SAME:=Lib.hid same
 clear hk h1 hcmp hH hv hz hz1 same
 by_cases h2:d.size < 2
 · go_enter fC,Tryz.ntmps61
   go_wp2
   go_ret
   obtain⟨e1,e2⟩:=SAME.out w (fun j hj=>by obtain rfl:j=0:=(by omega);rfl) HHw.out
   exact⟨by rw [e1];rfl,e2,Ex.refl _ _ _⟩
 · go_enter fC,Tryz.ntmps61
   go_wp2
   go_loopw [5] (fun s3 wr=>∃i:Nat,s3=.int .i64 i∧1≤i∧i≤d.size∧(∀j,j < i→stays eq d j=true)∧HoldsK enc k wr g off d∧Ex w.heap.size (some g) w wr) (fun s3 _=>d.size - (intOf s3).toNat)
   case atStart=>exact⟨1,rfl,Nat.le_refl _,by omega,fun j hj=>by obtain rfl:j=0:=(by omega);rfl,HHw.out,Ex.refl _ _ _⟩
   case round=>
    obtain⟨i,rfl,hi1,hi,hall,hHk,hex⟩:=hrel
    have HHk:=Lib.hid hHk
    have HA:=Lib.hid hall
    clear hHk hall
    have hsz':=hex.size
    by_cases hlt:i < d.size
    · obtain⟨ip,hip⟩:∃ip,ip=i - 1:=⟨_,rfl⟩
      have hwp:IntKind.i64.wrap ((i:Int) - 1)= (ip:Int):=by rw [IntKind.wrap_i64];omega
      have b1: (i:Int) < d.size:=by omega
      have b2: (ip:Int) < d.size:=by omega
      have HIP:=Lib.hid hip
      clear hip
      have hHc:∀n' os',HoldsK enc k (grow (wr.drewN n') os') g off d:=fun n' os'=>holdsK_grow enc k _ os' g off d (by show g < wr.heap.size;omega) (show HoldsK enc k (wr.drewN n') g off d from HHk.out)
      obtain⟨v1,hv1⟩:∃v,d[i]! =v:=⟨_,rfl⟩
      obtain⟨v2,hv2⟩:∃v,d[ip]! =v:=⟨_,rfl⟩
      have l1:∀n' os',Sem.run P (loadCellsFrom ⟨g,off+i * k,none⟩ 0 k #[]) (grow (wr.drewN n') os')=.ok (enc v1).toArray (grow (wr.drewN n') os'):=fun n' os'=>by
       rw [←hv1,show off+i * k=off+ (i) * k by rfl];exact run_loadCellsFrom_list P _ _ _ k (HK.out _) (HoldsK.cells (hHc n' os') HK.out (by omega))
      have l2:∀n' os',Sem.run P (loadCellsFrom ⟨g,off+ip * k,none⟩ 0 k #[]) (grow (wr.drewN n') os')=.ok (enc v2).toArray (grow (wr.drewN n') os'):=fun n' os'=>by
       rw [←hv2,show off+ip * k=off+ (ip) * k by rfl];exact run_loadCellsFrom_list P _ _ _ k (HK.out _) (HoldsK.cells (hHc n' os') HK.out (by omega))
      have hcg:∀n' os',Calls P f (#[.agg (enc v1).toArray,.agg (enc v2).toArray] ++ cb) (grow (wr.drewN n') os') fun e w'=>e=.returned (.bool (eq v1 v2))∧∃q os'',w' =grow ((grow (wr.drewN n') os').drewN q) os'':=fun n' os'=>HC.out _ (hex.trans (exGrowK n' os' none (Nat.le_refl _)) hsz' (by simp)) _ _
      have HV:Hid (d[i]! =v1∧d[ip]! =v2):=⟨hv1,hv2⟩
      clear hHc hv1 hv2
      by_cases hlv:eq v1 v2=true
      · simp only [hlv] at hcg
        go_wp2_with fail
        go_quiet_grown (first | (go_at_fn f;refine Calls.grown_of (hcg _ _)))
        have hc0:i≤cap:=by omega
        by_cases hce:cap=i
        · omega
        go_wp2
        obtain⟨wo,hwo⟩:∃wo:World,wo=grow (wr.drewN nq) osq:=⟨_,rfl⟩
        have hHo:HoldsK enc k wo g off d:=by rw [hwo];exact holdsK_grow enc k _ _ g off d (by show g < wr.heap.size;omega) (show HoldsK enc k (wr.drewN nq) g off d from HHk.out)
        have hexo:Ex w.heap.size (some g) w wo:=by rw [hwo];exact hex.trans (exGrowK nq osq none (Nat.le_refl _)) hsz' (by simp)
        rw [←hwo]
        have HHo:=Lib.hid hHo
        have HD0:Hid (stays eq d i=false):=by
         have:=stays_of (eq:=eq) (d:=d) (n:=i) (by omega) true (by rw [←HIP.out,HV.out.1,HV.out.2];exact hlv)
         exact this
        clear hHo hwo l1 l2 hcg hlv
        go_loopw [5,7] (fun s3 s5 wr=>∃(kk k2:Nat) (dk:Array α),s3=.int .i64 kk∧s5=.int .i64 k2∧1≤k2∧i+k2≤d.size∧CInv eq d (i+k2) kk dk∧HoldsK enc k wr g off dk∧Ex w.heap.size (some g) w wr) (fun _ s5 _=>d.size - (intOf s5).toNat)
        case atStart=>exact⟨i,1,d,rfl,rfl,Nat.le_refl _,by omega,CInv.start HA.out HD0.out hlt,HHo.out,hexo⟩
        case round=>
         clear HHk HHo HD0 hex hexo hsz' HV
         obtain⟨kk,k2,dk,rfl,rfl,h1,hle,hI,hHk,hex⟩:=hrel
         have hkk:=hI.lt
         have hds:=hI.size
         have HI:=Lib.hid hI
         have HHk:=Lib.hid hHk
         have HDS:=Lib.hid hds
         clear hI hHk hds
         have hsz':=hex.size
         by_cases hlt2:i+k2 < d.size
         · obtain⟨mp,hmp⟩:∃mp,mp=k2 - 1:=⟨_,rfl⟩
           have hwp2:IntKind.i64.wrap ((k2:Int) - 1)= (mp:Int):=by rw [IntKind.wrap_i64];omega
           have hl2: ((d.size - i:Nat):Int)= (d.size:Int) - i:=by omega
           have b3: (k2:Int) < (d.size:Int) - i:=by omega
           have b4: (mp:Int) < (d.size:Int) - i:=by omega
           have b5:k2 < d.size - i:=by omega
           have b6:mp < d.size - i:=by omega
           have hdz:dk.size=d.size:=HDS.out
           have HMP:=Lib.hid hmp
           have HDZ:=Lib.hid hdz
           clear hmp hdz
           have hHc:∀n' os',HoldsK enc k (grow (wr.drewN n') os') g off dk:=fun n' os'=>holdsK_grow enc k _ os' g off dk (by show g < wr.heap.size;omega) (show HoldsK enc k (wr.drewN n') g off dk from HHk.out)
           obtain⟨v1,hv1⟩:∃v,dk[i+k2]! =v:=⟨_,rfl⟩
           obtain⟨v2,hv2⟩:∃v,dk[i+mp]! =v:=⟨_,rfl⟩
           have l1:∀n' os',Sem.run P (loadCellsFrom ⟨g,off+i * k+k2 * k,none⟩ 0 k #[]) (grow (wr.drewN n') os')=.ok (enc v1).toArray (grow (wr.drewN n') os'):=fun n' os'=>by
            rw [←hv1,show off+i * k+k2 * k=off+ (i+k2) * k by exact shiftAtK _ _ _ _];exact run_loadCellsFrom_list P _ _ _ k (HK.out _) (HoldsK.cells (hHc n' os') HK.out (by have:=HDZ.out;omega))
           have l2:∀n' os',Sem.run P (loadCellsFrom ⟨g,off+i * k+mp * k,none⟩ 0 k #[]) (grow (wr.drewN n') os')=.ok (enc v2).toArray (grow (wr.drewN n') os'):=fun n' os'=>by
            rw [←hv2,show off+i * k+mp * k=off+ (i+mp) * k by exact shiftAtK _ _ _ _];exact run_loadCellsFrom_list P _ _ _ k (HK.out _) (HoldsK.cells (hHc n' os') HK.out (by have:=HDZ.out;omega))
           have hcg:∀n' os',Calls P f (#[.agg (enc v1).toArray,.agg (enc v2).toArray] ++ cb) (grow (wr.drewN n') os') fun e w'=>e=.returned (.bool (eq v1 v2))∧∃q os'',w' =grow ((grow (wr.drewN n') os').drewN q) os'':=fun n' os'=>HC.out _ (hex.trans (exGrowK n' os' none (Nat.le_refl _)) hsz' (by simp)) _ _
           have HV:Hid (dk[i+k2]! =v1∧dk[i+mp]! =v2):=⟨hv1,hv2⟩
           clear hHc hv1 hv2
           by_cases hlv:eq v1 v2=true
           · simp only [hlv] at hcg
             go_wp2_with fail
             go_quiet_grown (first | (go_at_fn f;refine Calls.grown_of (hcg _ _)))
             go_wp2
             go_roundw
             case rel=>exact⟨kk,k2+1,dk,rfl,by go_num,by omega,by omega,HI.out.skip (stays_of (by omega) true (by
              have e1:=HI.out.rest (i+k2) (by omega)
              have e2:=HI.out.rest (i+mp) (by have:=HMP.out;omega)
              rw [show i+k2 - 1=i+mp by have:=HMP.out;omega,←e1,←e2,HV.out.1,HV.out.2];exact hlv)),holdsK_grow enc k _ _ g off dk (by show g < wr.heap.size;omega) (show HoldsK enc k (wr.drewN nq) g off dk from HHk.out),hex.trans (exGrowK nq osq none (Nat.le_refl _)) hsz' (by simp)⟩
             case measure=>simp [intOf];omega
           · have hlv' :eq v1 v2=false:=by simpa using hlv
             simp only [hlv'] at hcg
             go_wp2_with fail
             go_quiet_grown (first | (go_at_fn f;refine Calls.grown_of (hcg _ _)))
             obtain⟨wq,hwq⟩:∃wq:World,wq=grow (wr.drewN nq) osq:=⟨_,rfl⟩
             have hHq:HoldsK enc k wq g off dk:=by rw [hwq];exact holdsK_grow enc k _ _ g off dk (by show g < wr.heap.size;omega) (show HoldsK enc k (wr.drewN nq) g off dk from HHk.out)
             have hexq:Ex w.heap.size (some g) w wq:=by rw [hwq];exact hex.trans (exGrowK nq osq none (Nat.le_refl _)) hsz' (by simp)
             have lq:Sem.run P (loadCellsFrom ⟨g,off+i * k+k2 * k,none⟩ 0 k #[]) wq=.ok (enc v1).toArray wq:=by rw [hwq];exact l1 nq osq
             rw [←hwq]
             have sq:Sem.run P (storeCells ⟨g,off+kk * k,none⟩ (enc v1) 0) wq=.ok () (wq.setCells g (off+kk * k) (enc v1)):=stores_of_holds P hHq (kk * k) _ (by
              rw [HK.out,size_flatK]
              have:=Nat.mul_le_mul_right k (show kk+1≤dk.size by have:=HDZ.out;omega);rwa [Nat.add_mul,Nat.one_mul] at this) (H1.out _)
             have hsV: (enc v1).length=k:=HK.out _
             have HQ:=Lib.hid hHq
             have hszq:=hexq.size
             clear l1 l2 hcg hwq hHq
             obtain⟨cV,hcV⟩:∃c,c=enc v1:=⟨_,rfl⟩
             rw [←hcV] at lq sq hsV
             have CC:=Lib.hid hcV
             clear hcV
             have b7: (kk:Int) < d.size:=by omega
             go_wp2
             go_roundw
             case rel=>
              have e1:=HI.out.rest (i+k2) (by omega)
              have e2:=HI.out.rest (i+mp) (by have:=HMP.out;omega)
              have hk:=HI.out.keep (stays_of (by omega) false (by
               rw [show i+k2 - 1=i+mp by have:=HMP.out;omega,←e1,←e2,HV.out.1,HV.out.2];exact hlv')) hlt2
              rw [←e1,HV.out.1] at hk
              refine⟨kk+1,k2+1,dk.setIfInBounds kk v1,by go_num,by go_num,by omega,by omega,hk,?_,hexq.trans (ex_setCells wq g (off+kk * k) cV) hszq (fun q e _=>by cases e;rfl)⟩
              rw [CC.out]
              exact holdsK_set HK.out HQ.out kk v1 (by have:=HDZ.out;omega)
             case measure=>simp [intOf];omega
         · obtain⟨n,hn⟩:∃n,n=d.size:=⟨_,rfl⟩
           have hend:i+k2=d.size:=by omega
           have hdz:dk.size=d.size:=HDS.out
           have hcl:∀ty,(Builtin.clear_ #[27] ty #[.slice (some ⟨g,off+kk * k,none⟩) (d.size - kk) (cap - kk)]).run P wr=.ok (.tuple #[]) (wr.setCells g (off+kk * k) (Builtin.zeroCells z (d.size - kk)).toList) :=
            fun ty=>runClearK wr _ _ ty (.agg z) k L.t4 HZ.out.1 HZ.out.2.1 HZ.out.2.2 g (off+kk * k) _ _ (by omega) (fun j hj=>by
             have:=(HHk.out (kk * k+j) (by rw [size_flatK,hdz];have:=Nat.add_mul kk (d.size - kk) k;rw [show kk+ (d.size - kk)=d.size by omega] at this;omega)).1
             rw [Nat.add_assoc,this];rfl) (fun j hj=>by
             have:=(HHk.out (kk * k+j) (by rw [size_flatK,hdz];have:=Nat.add_mul kk (d.size - kk) k;rw [show kk+ (d.size - kk)=d.size by omega] at this;omega)).2
             rw [Nat.add_assoc];exact this)
           have hexc:=hex.trans (ex_setCells wr g (off+kk * k) (Builtin.zeroCells z (d.size - kk)).toList) hsz' (fun q e _=>by cases e;rfl)
           have hfin:HoldsK enc k (wr.setCells g (off+kk * k) (Builtin.zeroCells z (d.size - kk)).toList) g off (cpt eq d d.size).toArray:=by
            have hI:=HI.out
            rw [hend] at hI
            obtain⟨h1,h2⟩:=hI.head (Nat.le_refl _)
            exact holdsK_behind (holdsK_first HHk.out h1 h2) _ _ (by simp [hI.len])
           have hlen: (cpt eq d d.size).length=kk:=by have:=HI.out.len;rwa [hend] at this
           have FIN:=Lib.hid (And.intro hexc (And.intro hfin hlen))
           have b7: (kk:Int)≤d.size:=by omega
           have b8 : ¬(k2:Int) < (d.size:Int) - i:=by omega
           have b9 : ¬k2 < d.size - i:=by omega
           have b10: (kk:Int)≤cap:=by omega
           have b11:kk≤cap:=by omega
           have b12:kk≤d.size:=by omega
           have b13 : ¬cap=kk:=by omega
           clear hexc hfin hlen hend hdz hn
           go_wp2
           go_ret
           exact⟨by rw [FIN.out.2.2];rfl,FIN.out.2.1,FIN.out.1⟩
      · have hlv' :eq v1 v2=false:=by simpa using hlv
        simp only [hlv'] at hcg
        go_wp2_with fail
        go_quiet_grown (first | (go_at_fn f;refine Calls.grown_of (hcg _ _)))
        go_wp2
        go_roundw
        case rel=>exact⟨i+1,by go_num,by omega,by omega,fun j hj=>by
         by_cases e:j=i
         · subst e
           exact stays_of (by omega) false (by rw [←HIP.out,HV.out.1,HV.out.2];exact hlv')
         · exact HA.out j (by omega),holdsK_grow enc k _ _ g off d (by show g < wr.heap.size;omega) (show HoldsK enc k (wr.drewN nq) g off d from HHk.out),hex.trans (exGrowK nq osq none (Nat.le_refl _)) hsz' (by simp)⟩
        case measure=>simp [intOf];omega
    · obtain rfl:i=d.size:=by omega
      go_wp2
      go_ret
      obtain⟨e1,e2⟩:=SAME.out wr HA.out HHk.out
      exact⟨by rw [e1];rfl,e2,hex⟩
end Go.Proofs.YtflhidfclfkjlaaGreat

/- Dice without its numbers: contracts that tell bounds alone. No statement of the seat. -/
import Derived.Test.YtflhidfclfkjlaaGreatMg04
import Derived.Test.YtflhidfclfkjlaaGreatMg00
import Derived.Test.YtflhidfclfkjlaaGreatBlock01G
import Derived.Deep.Cut
namespace Go.Proofs.YtflhidfclfkjlaaGreat
open Go.RowKit Go.Sort
def DiceOK (N:Nat) (w:World) (p:Nat):Prop:=∃d,DiceAt N w p d
theorem DiceOK.keep {N:Nat} {w w' :World} {p B:Nat} (h:DiceOK N w p) (hx:Ex B none w w') (hB:N≤B):DiceOK N w' p:=by
 obtain⟨d,h⟩:=h
 exact⟨d,h.keep hx hB⟩
theorem DiceOK.lt {N:Nat} {w:World} {p:Nat} (h:DiceOK N w p):p < N:=by
 obtain⟨d,h⟩:=h
 exact h.lt
theorem next_w (N p:Nat) (n:Int) (w:World) (hd:DiceOK N w p) (h1:1≤n) (hn:n≤4611686018427387904) :
 Calls Tryz.prog 9 #[.pointer (some ⟨p,0,none⟩),.int .i64 n] w fun e w'=>∃k:Nat,e=.returned (.int .i64 k)∧(k:Int) < n∧DiceOK N w' p∧Ex w.heap.size (some p) w w':=by
 obtain⟨d,hd⟩:=hd
 obtain⟨k,hk,hkl⟩:=dVal_nat (d:=d) (n:=n) h1
 exact(next_any N p d n w hd hn).mono fun e w' ⟨he,h2,h3⟩=>⟨k,by rw [he,hk],hkl,⟨_,h2⟩,h3⟩
theorem one_w (N p:Nat) (n:Int) (w:World) (hd:DiceOK N w p) (h1:1≤n) (hn:n≤4611686018427387904) :
 Calls Tryz.prog 10 #[.pointer (some ⟨p,0,none⟩),.int .i64 n] w fun e w'=>∃b:Bool,e=.returned (.bool b)∧DiceOK N w' p∧Ex w.heap.size (some p) w w':=by
 obtain⟨d,hd⟩:=hd
 exact(one_any N p d n w hd h1 hn).mono fun e w' ⟨he,h2,h3⟩=>⟨_,he,⟨_,h2⟩,h3⟩
theorem of_w (N p:Nat) (v:Value) (xs:List Int) (w:World) (hd:DiceOK N w p) (hv:IntsO p w v xs) (h1:1≤xs.length) (hm:xs.length≤100000) :
 Calls Tryz.prog 27 #[.pointer (some ⟨p,0,none⟩),v] w fun e w'=>∃y:Int,e=.returned (.int .i64 y)∧y∈xs∧DiceOK N w' p∧Ex w.heap.size (some p) w w':=by
 obtain⟨d,hd⟩:=hd
 obtain⟨k,hk,hkl⟩:=dVal_nat (d:=d) (n:=xs.length) (by omega)
 refine(ofD_any N p d v xs w hd hv h1 hm).mono fun e w' ⟨he,h2,h3⟩=>⟨_,he,?_,⟨_,h2⟩,h3⟩
 rw [hk]
 have hkl' :k < xs.length:=by omega
 simp only [Int.toNat_natCast,List.getD_eq_getElem?_getD,List.getElem?_eq_getElem hkl',Option.getD_some]
 exact List.getElem_mem _
theorem IntsO.lit {p:Nat} {w:World} (xs:List Int) {n g:Nat} (hg:g=w.heap.size) (hn:n=xs.length) (hp:p < g):IntsO p (w.alloc (.cells (xs.map (Value.int .i64)).toArray 3)) (.slice (some ⟨g,0,none⟩) n n) xs:=by
 subst hn hg
 exact⟨_,_,rfl,IntsAt.lit w xs,fun _ a ha=>by cases ha;show w.heap.size≠p;omega⟩
theorem OwnB.keepP {w w' :World} {base B:Nat} {p:Option Nat} {ao:Option Addr} {cap:Nat} {xs:List UInt8} (h:OwnB w base ao cap xs) (hx:Ex B p w w') (hB:w.heap.size≤B) (hp:∀q,p=some q→q < base):OwnB w' base ao cap xs:=OwnE.keep h hx hB hp
theorem made32: (madeCells (Value.int .u8 0).cells (32 * 1)).toList=flatL byE (List.replicate 32 0):=by
 rw [flat_byE,show(Value.int .u8 0).cells=#[.int .u8 0] from rfl,toList_madeCells_one];rfl
theorem by_cellH {w:World} {g:Nat} {d:Array UInt8} (h:HoldsK byE 1 w g 0 d) (i:Nat) (hi:i < d.size):w.cell? ⟨g,i,none⟩=some (.int .u8 (d.toList.getD i 0).toNat)∧w.frozen? ⟨g,i,none⟩=false:=by
 have:=h.cell hi (show 0 < 1 by decide)
 simp only [Nat.zero_add,Nat.mul_one,Nat.add_zero] at this
 rw [this.1,getElem!_pos d i hi]
 refine⟨?_,this.2⟩
 simp [byE,List.getD,hi]
theorem by_setH {w:World} {g:Nat} {d:Array UInt8} (h:HoldsK byE 1 w g 0 d) (i:Nat) (hi:i < d.size) (x:UInt8) {v:Int} (hv:v= (x.toNat:Int)):HoldsK byE 1 (w.setCell ⟨g,i,none⟩ (.int .u8 v)) g 0 (d.setIfInBounds i x):=by
 subst hv
 have:=holdsK_set byE_len h i x hi
 simpa [byE,World.setCells] using this
set_option maxHeartbeats 4000000 in
set_option maxRecDepth 100000 in
theorem digestD_w (N p:Nat) (w:World) (hd:DiceOK N w p) (hN:N≤w.heap.size) :
 Calls Tryz.prog 32 #[.pointer (some ⟨p,0,none⟩)] w fun e w'=>∃s:ByteArray,e=.returned (.string s)∧s.size=32∧DiceOK N w' p∧Ex w.heap.size (some p) w w':=by
 have HD:=Lib.hid hd
 have hp:=hd.lt
 clear hd
 obtain⟨i0,hi,hz0,hz1,hz2⟩:=info_parts Tryz.infoB
 go_enter Tryz.func32,Tryz.ntmps32
 go_upto_region 2 with(first
  | (at_make;refine wpList_make_full _ rfl (.const (.int .i64 32)) (.const (.int .i64 32)) _ rfl w.heap.size 5 i0 _ 1 Tryz.underlying79 hi hz0 hz1 .i64 .i64 _ _ 32 rfl rfl rfl rfl (by rw [hz2];omega) (by unfold maxLen;omega) (Nat.le_refl _) ?_;intro w1 hown1 hgr1)
  | fail)
 have HO1:Hid (OwnB w1 w.heap.size (some ⟨w.heap.size,0,none⟩) 32 (List.replicate 32 0)):=Lib.hid (by
  rw [made32] at hown1;exact hown1)
 have HE1:Hid (Ex w.heap.size none w w1):=Lib.hid ((Ex.refl _ _ w).grown hgr1 (Nat.le_refl _) (by simp))
 have hz:w.heap.size < w1.heap.size:=(HO1.out.lt _ rfl).2
 have HD1:Hid (DiceOK N w1 p):=Lib.hid (HD.out.keep HE1.out hN)
 clear hown1 hgr1
 go_upto_region 3 with(first
  | (go_at_call 9;(fail_if_success (first | have _x:=HD2 | fail));refine(next_w N p 4 _ HD1.out (by omega) (by omega)).mono ?_;rintro e w2 ⟨k1,rfl,hk1,hd2,hex2⟩;have HD2:=Lib.hid hd2;have HE2:=Lib.hid hex2;clear hd2 hex2)
  | (go_at_call 9;refine(next_w N p 256 _ HD2.out (by omega) (by omega)).mono ?_;rintro e w3 ⟨k2,rfl,hk2,hd3,hex3⟩;have HD3:=Lib.hid hd3;have HE3:Hid (Ex w1.heap.size (some p) w1 w3):=Lib.hid (HE2.out.trans hex3 HE2.out.size (fun q e _=>by cases e;rfl));clear hd3 hex3;have HO3:Hid (OwnB w3 w.heap.size (some ⟨w.heap.size,0,none⟩) 32 (List.replicate 32 0)):=Lib.hid (OwnB.keepP HO1.out HE3.out (Nat.le_refl _) (fun q e=>by cases e;omega));have HH3:Hid (HoldsK byE 1 w3 w.heap.size 0 (List.replicate 32 (0:UInt8)).toArray):=Lib.hid (OwnE.holds byE_len HO3.out);obtain⟨q0,f0⟩:=by_cellH HH3.out 0 (by simp);obtain⟨q31,f31⟩:=by_cellH HH3.out 31 (by simp))
  | fail)
 obtain⟨w4,hw4⟩:∃w4:World,w4= (w3.setCell ⟨w.heap.size,0,none⟩ (.int .u8 k1)).setCell ⟨w.heap.size,31,none⟩ (.int .u8 k2):=⟨_,rfl⟩
 have hu:∀k:Nat,(k:Int) < 256→(k:Int)= ((UInt8.ofNat k).toNat:Int):=fun k hk=>by rw [UInt8.toNat_ofNat'];omega
 obtain⟨d4,hd4⟩:∃d4:Array UInt8,d4= (((List.replicate 32 (0:UInt8)).toArray).setIfInBounds 0 (UInt8.ofNat k1)).setIfInBounds 31 (UInt8.ofNat k2):=⟨_,rfl⟩
 have HS4:Hid (d4.size=32):=Lib.hid (by rw [hd4];simp)
 have HH4:Hid (HoldsK byE 1 w4 w.heap.size 0 d4):=Lib.hid (by
  rw [hw4,hd4]
  exact by_setH (by_setH HH3.out 0 (by simp) _ (hu k1 (by omega))) 31 (by simp) _ (hu k2 hk2))
 have HE4:Hid (Ex w.heap.size (some p) w w4∧DiceOK N w4 p):=Lib.hid (by
  rw [hw4]
  refine⟨?_,HD3.out.keep (B:=N) ?_ (Nat.le_refl _)⟩
  · iterate 2 refine Ex.setCell ?_ _ none _ (Or.inr (Nat.le_refl _))
    exact(HE1.out.weaken _).trans HE3.out (by omega) (fun q e _=>by cases e;rfl)
  · iterate 2 refine Ex.setCell ?_ _ none _ (Or.inr hN)
    exact Ex.refl _ _ _)
 rw [←hw4]
 clear hw4 hd4 hu q0 f0 q31 f31 HE3 HE1 hk1 hk2
 have hsl:Sl byRep (fun _=>True) w4 (.slice (some ⟨w.heap.size,0,none⟩) 32 32) d4.toList:=⟨_,32,by rw [Array.length_toList,HS4.out],val_sl trivial (by simpa using HH4.out)⟩
 have hconv:=run_strOf (P:=Tryz.prog) (src:=79) (dst:=9) hsl Tryz.underlying79 Tryz.underlying5 Tryz.underlying9
 clear hsl
 go_wp2
 go_ret
 exact⟨_,rfl,by rw [strOf_size,Array.length_toList,HS4.out],HE4.out.2,HE4.out.1⟩
end Go.Proofs.YtflhidfclfkjlaaGreat

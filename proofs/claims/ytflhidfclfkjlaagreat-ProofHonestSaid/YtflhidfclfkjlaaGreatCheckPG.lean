/- statement.Check at whatever statement: a contract, no statement of the seat. -/
import Derived.Test.YtflhidfclfkjlaaGreatMg08
import Derived.Test.YtflhidfclfkjlaaGreatMg06
import Derived.Deep.Cut
namespace Go.Proofs.YtflhidfclfkjlaaGreat
open Go.RowKit Go.Sort
theorem stBox_cells (s:St) (lo po:Option Addr) (ln lc pn pc:Nat) (w w0:World) (h0:w0=w.alloc (.cells #[.int .i64 s.author,.int .i64 s.number,.string s.prev,.int .i64 s.time,.int .i64 s.kind,.int .i64 s.a,.int .i64 s.b,.int .i64 s.c,.slice lo ln lc,.slice po pn pc,.string s.body,.int .i64 s.key,.string s.dig] 51)) :
 ∀w',Ex w0.heap.size none w0 w'→w'.cell? ⟨w.heap.size,0,none⟩=some (.int .i64 s.author)∧w'.cell? ⟨w.heap.size,1,none⟩=some (.int .i64 s.number)∧w'.cell? ⟨w.heap.size,2,none⟩=some (.string s.prev)∧w'.cell? ⟨w.heap.size,3,none⟩=some (.int .i64 s.time)∧w'.cell? ⟨w.heap.size,4,none⟩=some (.int .i64 s.kind)∧w'.cell? ⟨w.heap.size,5,none⟩=some (.int .i64 s.a)∧w'.cell? ⟨w.heap.size,6,none⟩=some (.int .i64 s.b)∧w'.cell? ⟨w.heap.size,7,none⟩=some (.int .i64 s.c)∧w'.cell? ⟨w.heap.size,8,none⟩=some (.slice lo ln lc)∧w'.cell? ⟨w.heap.size,9,none⟩=some (.slice po pn pc)∧w'.cell? ⟨w.heap.size,10,none⟩=some (.string s.body)∧w'.cell? ⟨w.heap.size,11,none⟩=some (.int .i64 s.key)∧w'.cell? ⟨w.heap.size,12,none⟩=some (.string s.dig):=fun w' h=>by
 have k:w'.heap[w.heap.size]? =some (.cells #[.int .i64 s.author,.int .i64 s.number,.string s.prev,.int .i64 s.time,.int .i64 s.kind,.int .i64 s.a,.int .i64 s.b,.int .i64 s.c,.slice lo ln lc,.slice po pn pc,.string s.body,.int .i64 s.key,.string s.dig] 51 (0,0)):=by
  refine(h.block _ (by rw [h0];simp) (by simp)).trans ?_
  rw [h0];exact heap_alloc_new w _
 refine⟨?_,?_,?_,?_,?_,?_,?_,?_,?_,?_,?_,?_,?_⟩ <;> (rw [cell_of_row _ _ _ _ _ _ k];rfl)
theorem bytes_empty {b:ByteArray} (h:b.size=0):b= ⟨#[]⟩:=by
 obtain⟨a⟩:=b
 congr
 exact Array.size_eq_zero_iff.1 h
set_option maxHeartbeats 16000000 in
set_option maxRecDepth 100000 in
theorem checkPlain_any {P:Nat→Prop} (s:St) (lo po:Option Addr) (ln lc pn pc:Nat) (w:World) (hs:Lies P w (s,⟨lo,ln,lc⟩,⟨po,pn,pc⟩)) (hm:ln≤9223372036854775807∧pn≤9223372036854775807) (a1:0≤s.author∧s.author≤63) (a2:1≤s.kind∧s.kind≤3) :
 Calls Tryz.prog 40 #[.agg #[.int .i64 s.author,.int .i64 s.number,.string s.prev,.int .i64 s.time,.int .i64 s.kind,.int .i64 s.a,.int .i64 s.b,.int .i64 s.c,.slice lo ln lc,.slice po pn pc,.string s.body,.int .i64 s.key,.string s.dig]] w fun e w'=>e=.returned (.int .i64 (checkI s))∧Ex w.heap.size none w w':=by
 have HLN:Hid (ln=s.list.length):=by obtain⟨⟨_,_,e,_⟩,_⟩:=hs;simp only [Sv.v] at e;cases e;exact rfl
 have HPN:Hid (pn=s.pins.length):=by obtain⟨_,⟨_,_,e,_⟩⟩:=hs;simp only [Sv.v] at e;cases e;exact rfl
 obtain⟨hm1,hm2⟩:=hm
 obtain⟨w0,hw0⟩:∃w0:World,w0=w.alloc (.cells #[.int .i64 s.author,.int .i64 s.number,.string s.prev,.int .i64 s.time,.int .i64 s.kind,.int .i64 s.a,.int .i64 s.b,.int .i64 s.c,.slice lo ln lc,.slice po pn pc,.string s.body,.int .i64 s.key,.string s.dig] 51):=⟨_,rfl⟩
 have HE0:Hid (Ex w.heap.size none w w0):=Lib.hid (by rw [hw0];exact Ex.new w _)
 have hz0:w.heap.size≤w0.heap.size:=by rw [hw0];simp
 have HQ:=Lib.hid (stBox_cells s lo po ln lc pn pc w w0 hw0)
 have HW0:=Lib.hid hw0
 have HLI:Hid (∀w',Ex w.heap.size none w w'→Ints w' (.slice lo ln lc) s.list):=Lib.hid (fun w' h=>(sl_ints hs.1).keep h (Nat.le_refl _))
 have HPI:Hid (∀w',Ex w.heap.size none w w'→Sl pinRep P w' (.slice po pn pc) s.pins):=Lib.hid (fun w' h=>hs.2.keep (by decide) (fun b _ hb=>h.block b hb (by simp)))
 clear hs hw0
 have h1: (decide (0≤s.author) && decide (s.author≤63))=true:=by simp [a1]
 have n1 : ¬keyB s.author=false:=by simp [keyB];omega
 have h2: (decide (1≤s.kind) && decide (s.kind≤3))=true:=by simp [a2]
 have h2p:decide (s.kind≤3)=true:=by simp [a2]
 have n2 : ¬(s.kind < 1∨(3 < s.kind∧s.kind < 10)∨31 < s.kind):=by omega
 cases h3q:inB s.time 2147483648
 case false=>
  have h3: (decide (0≤s.time) && decide (s.time≤2147483648))=false:=h3q
  have HK:Hid (checkI s=9):=by show _=_;rw [checkI,if_neg n1,if_neg n2,if_pos h3q]
  go_enter Tryz.func40,Tryz.ntmps40
  go_upto_region 1 with(fail)
  rw [←HW0.out]
  obtain⟨d0,d1,d2,d3,d4,d5,d6,d7,d8,d9,d10,d11,d12⟩:=HQ.out _ (Ex.refl _ _ w0)
  go_wp2_with (first | (go_at_call 66;refine(listsIn_any _ _ _ _).mono ?_;(first | rw [h1] | rw [h2] | rw [h2b] | rw [h3] | rw [h4] | skip);rintro e w' ⟨rfl,rfl⟩) | (go_at_call 67;refine(valueAny_any _ _).mono ?_;(first | rw [h5] | rw [h6] | rw [h7] | skip);rintro e w' ⟨rfl,rfl⟩) | fail)
  go_ret
  exact⟨by rw [HK.out];rfl,HE0.out⟩
 have h3: (decide (0≤s.time) && decide (s.time≤2147483648))=true:=h3q
 have n3 : ¬inB s.time 2147483648=false:=by rw [h3q];decide
 cases h4q:inB s.number 199
 case false=>
  have h4: (decide (0≤s.number) && decide (s.number≤199))=false:=h4q
  have p4:numB s=false:=by simp [numB,M40,h4q]
  have HK:Hid (checkI s=2):=by show _=_;rw [checkI,if_neg n1,if_neg n2,if_neg n3,if_pos p4]
  go_enter Tryz.func40,Tryz.ntmps40
  go_upto_region 1 with(fail)
  rw [←HW0.out]
  obtain⟨d0,d1,d2,d3,d4,d5,d6,d7,d8,d9,d10,d11,d12⟩:=HQ.out _ (Ex.refl _ _ w0)
  go_wp2_with (first | (go_at_call 66;refine(listsIn_any _ _ _ _).mono ?_;(first | rw [h1] | rw [h2] | rw [h2b] | rw [h3] | rw [h4] | skip);rintro e w' ⟨rfl,rfl⟩) | (go_at_call 67;refine(valueAny_any _ _).mono ?_;(first | rw [h5] | rw [h6] | rw [h7] | skip);rintro e w' ⟨rfl,rfl⟩) | fail)
  go_ret
  exact⟨by rw [HK.out];rfl,HE0.out⟩
 have h4: (decide (0≤s.number) && decide (s.number≤199))=true:=h4q
 cases h5:inB s.a 1099511627776
 case false=>
  have p4:numB s=false:=by simp [numB,M40,h4q,h5]
  have HK:Hid (checkI s=2):=by show _=_;rw [checkI,if_neg n1,if_neg n2,if_neg n3,if_pos p4]
  go_enter Tryz.func40,Tryz.ntmps40
  go_upto_region 1 with(fail)
  rw [←HW0.out]
  obtain⟨d0,d1,d2,d3,d4,d5,d6,d7,d8,d9,d10,d11,d12⟩:=HQ.out _ (Ex.refl _ _ w0)
  go_wp2_with (first | (go_at_call 66;refine(listsIn_any _ _ _ _).mono ?_;(first | rw [h1] | rw [h2] | rw [h2b] | rw [h3] | rw [h4] | skip);rintro e w' ⟨rfl,rfl⟩) | (go_at_call 67;refine(valueAny_any _ _).mono ?_;(first | rw [h5] | rw [h6] | rw [h7] | skip);rintro e w' ⟨rfl,rfl⟩) | fail)
  go_ret
  exact⟨by rw [HK.out];rfl,HE0.out⟩
 cases h6:inB s.b 1099511627776
 case false=>
  have p4:numB s=false:=by simp [numB,M40,h4q,h5,h6]
  have HK:Hid (checkI s=2):=by show _=_;rw [checkI,if_neg n1,if_neg n2,if_neg n3,if_pos p4]
  go_enter Tryz.func40,Tryz.ntmps40
  go_upto_region 1 with(fail)
  rw [←HW0.out]
  obtain⟨d0,d1,d2,d3,d4,d5,d6,d7,d8,d9,d10,d11,d12⟩:=HQ.out _ (Ex.refl _ _ w0)
  go_wp2_with (first | (go_at_call 66;refine(listsIn_any _ _ _ _).mono ?_;(first | rw [h1] | rw [h2] | rw [h2b] | rw [h3] | rw [h4] | skip);rintro e w' ⟨rfl,rfl⟩) | (go_at_call 67;refine(valueAny_any _ _).mono ?_;(first | rw [h5] | rw [h6] | rw [h7] | skip);rintro e w' ⟨rfl,rfl⟩) | fail)
  go_ret
  exact⟨by rw [HK.out];rfl,HE0.out⟩
 cases h7:inB s.c 1099511627776
 case false=>
  have p4:numB s=false:=by simp [numB,M40,h4q,h5,h6,h7]
  have HK:Hid (checkI s=2):=by show _=_;rw [checkI,if_neg n1,if_neg n2,if_neg n3,if_pos p4]
  go_enter Tryz.func40,Tryz.ntmps40
  go_upto_region 1 with(fail)
  rw [←HW0.out]
  obtain⟨d0,d1,d2,d3,d4,d5,d6,d7,d8,d9,d10,d11,d12⟩:=HQ.out _ (Ex.refl _ _ w0)
  go_wp2_with (first | (go_at_call 66;refine(listsIn_any _ _ _ _).mono ?_;(first | rw [h1] | rw [h2] | rw [h2b] | rw [h3] | rw [h4] | skip);rintro e w' ⟨rfl,rfl⟩) | (go_at_call 67;refine(valueAny_any _ _).mono ?_;(first | rw [h5] | rw [h6] | rw [h7] | skip);rintro e w' ⟨rfl,rfl⟩) | fail)
  go_ret
  exact⟨by rw [HK.out];rfl,HE0.out⟩
 cases h9q:saidB s.list
 case false=>
  have h9: (!saidB s.list)=true:=by rw [h9q];rfl
  have p4:numB s=false:=by
   have hq:=h9q
   unfold saidB at hq
   simp only [numB,M40,hq,Bool.and_false,Bool.false_and]
  cases h8:kindB s
  case false=>
   have HK:Hid (checkI s=2):=by show _=_;rw [checkI,if_neg n1,if_neg n2,if_neg n3,if_pos p4]
   go_enter Tryz.func40,Tryz.ntmps40
   go_upto_region 1 with(fail)
   rw [←HW0.out]
   obtain⟨d0,d1,d2,d3,d4,d5,d6,d7,d8,d9,d10,d11,d12⟩:=HQ.out _ (Ex.refl _ _ w0)
   go_wp2_with (first | (go_at_call 66;refine(listsIn_any _ _ _ _).mono ?_;(first | rw [h1] | rw [h2] | rw [h2b] | rw [h3] | rw [h4] | skip);rintro e w' ⟨rfl,rfl⟩) | (go_at_call 67;refine(valueAny_any _ _).mono ?_;(first | rw [h5] | rw [h6] | rw [h7] | skip);rintro e w' ⟨rfl,rfl⟩) | (go_at_call 68;refine(asB (meantP_any s lo po ln lc pn pc w0) h8).mono ?_;rintro e w1 ⟨rfl,hex⟩;have HE1:=Lib.hid hex;have hz1:=hex.size;clear hex d0 d1 d2 d3 d4 d5 d6 d7 d8 d9 d10 d11 d12;obtain⟨d0,d1,d2,d3,d4,d5,d6,d7,d8,d9,d10,d11,d12⟩:=HQ.out _ HE1.out) | (go_at_call 69;refine(containsUnsaid_any _ s.list w1 (HLI.out _ (HE0.out.trans HE1.out hz0 (by simp))) (by rw [←HLN.out];exact hm1)).mono ?_;rw [h9];rintro e w' ⟨rfl,rfl⟩) | fail)
   go_ret
   exact⟨by rw [HK.out];rfl,(HE0.out.trans HE1.out hz0 (by simp))⟩
  case true=>
   have HK:Hid (checkI s=2):=by show _=_;rw [checkI,if_neg n1,if_neg n2,if_neg n3,if_pos p4]
   go_enter Tryz.func40,Tryz.ntmps40
   go_upto_region 1 with(fail)
   rw [←HW0.out]
   obtain⟨d0,d1,d2,d3,d4,d5,d6,d7,d8,d9,d10,d11,d12⟩:=HQ.out _ (Ex.refl _ _ w0)
   go_wp2_with (first | (go_at_call 66;refine(listsIn_any _ _ _ _).mono ?_;(first | rw [h1] | rw [h2] | rw [h2b] | rw [h3] | rw [h4] | skip);rintro e w' ⟨rfl,rfl⟩) | (go_at_call 67;refine(valueAny_any _ _).mono ?_;(first | rw [h5] | rw [h6] | rw [h7] | skip);rintro e w' ⟨rfl,rfl⟩) | (go_at_call 68;refine(asB (meantP_any s lo po ln lc pn pc w0) h8).mono ?_;rintro e w1 ⟨rfl,hex⟩;have HE1:=Lib.hid hex;have hz1:=hex.size;clear hex d0 d1 d2 d3 d4 d5 d6 d7 d8 d9 d10 d11 d12;obtain⟨d0,d1,d2,d3,d4,d5,d6,d7,d8,d9,d10,d11,d12⟩:=HQ.out _ HE1.out) | (go_at_call 69;refine(containsUnsaid_any _ s.list w1 (HLI.out _ (HE0.out.trans HE1.out hz0 (by simp))) (by rw [←HLN.out];exact hm1)).mono ?_;rw [h9];rintro e w' ⟨rfl,rfl⟩) | fail)
   go_ret
   exact⟨by rw [HK.out];rfl,(HE0.out.trans HE1.out hz0 (by simp))⟩
 have h9: (!saidB s.list)=false:=by rw [h9q];rfl
 cases h8:kindB s
 case false=>
  have p4:numB s=false:=by simp [numB,h8]
  have HK:Hid (checkI s=2):=by show _=_;rw [checkI,if_neg n1,if_neg n2,if_neg n3,if_pos p4]
  go_enter Tryz.func40,Tryz.ntmps40
  go_upto_region 1 with(fail)
  rw [←HW0.out]
  obtain⟨d0,d1,d2,d3,d4,d5,d6,d7,d8,d9,d10,d11,d12⟩:=HQ.out _ (Ex.refl _ _ w0)
  go_wp2_with (first | (go_at_call 66;refine(listsIn_any _ _ _ _).mono ?_;(first | rw [h1] | rw [h2] | rw [h2b] | rw [h3] | rw [h4] | skip);rintro e w' ⟨rfl,rfl⟩) | (go_at_call 67;refine(valueAny_any _ _).mono ?_;(first | rw [h5] | rw [h6] | rw [h7] | skip);rintro e w' ⟨rfl,rfl⟩) | (go_at_call 68;refine(asB (meantP_any s lo po ln lc pn pc w0) h8).mono ?_;rintro e w1 ⟨rfl,hex⟩;have HE1:=Lib.hid hex;have hz1:=hex.size;clear hex d0 d1 d2 d3 d4 d5 d6 d7 d8 d9 d10 d11 d12;obtain⟨d0,d1,d2,d3,d4,d5,d6,d7,d8,d9,d10,d11,d12⟩:=HQ.out _ HE1.out) | (go_at_call 69;refine(containsUnsaid_any _ s.list w1 (HLI.out _ (HE0.out.trans HE1.out hz0 (by simp))) (by rw [←HLN.out];exact hm1)).mono ?_;rw [h9];rintro e w' ⟨rfl,rfl⟩) | fail)
  go_ret
  exact⟨by rw [HK.out];rfl,(HE0.out.trans HE1.out hz0 (by simp))⟩
 have n4 : ¬numB s=false:=by
  have hq:=h9q
  unfold saidB at hq
  simp only [numB,M40,h4q,h5,h6,h7,h8,hq]
  decide
 have hnn:0≤s.number:=(inB_iff.1 h4q).1
 by_cases l1:64 < ln
 case pos=>
  have p5:64 < s.list.length∨64 < s.pins.length∨4096 < s.body.size:=.inl (by rw [←HLN.out];exact l1)
  have l1d:decide (64 < ln)=true:=decide_eq_true l1
  have HK:Hid (checkI s=3):=by show _=_;rw [checkI,if_neg n1,if_neg n2,if_neg n3,if_neg n4,if_pos p5]
  go_enter Tryz.func40,Tryz.ntmps40
  go_upto_region 1 with(fail)
  rw [←HW0.out]
  obtain⟨d0,d1,d2,d3,d4,d5,d6,d7,d8,d9,d10,d11,d12⟩:=HQ.out _ (Ex.refl _ _ w0)
  go_wp2_with (first | (go_at_call 66;refine(listsIn_any _ _ _ _).mono ?_;(first | rw [h1] | rw [h2] | rw [h2b] | rw [h3] | rw [h4] | skip);rintro e w' ⟨rfl,rfl⟩) | (go_at_call 67;refine(valueAny_any _ _).mono ?_;(first | rw [h5] | rw [h6] | rw [h7] | skip);rintro e w' ⟨rfl,rfl⟩) | (go_at_call 68;refine(asB (meantP_any s lo po ln lc pn pc w0) h8).mono ?_;rintro e w1 ⟨rfl,hex⟩;have HE1:=Lib.hid hex;have hz1:=hex.size;clear hex d0 d1 d2 d3 d4 d5 d6 d7 d8 d9 d10 d11 d12;obtain⟨d0,d1,d2,d3,d4,d5,d6,d7,d8,d9,d10,d11,d12⟩:=HQ.out _ HE1.out) | (go_at_call 69;refine(containsUnsaid_any _ s.list w1 (HLI.out _ (HE0.out.trans HE1.out hz0 (by simp))) (by rw [←HLN.out];exact hm1)).mono ?_;rw [h9];rintro e w' ⟨rfl,rfl⟩) | fail)
  go_ret
  exact⟨by rw [HK.out];rfl,(HE0.out.trans HE1.out hz0 (by simp))⟩
 have l1d:decide (64 < ln)=false:=decide_eq_false l1
 by_cases l2:64 < pn
 case pos=>
  have p5:64 < s.list.length∨64 < s.pins.length∨4096 < s.body.size:=.inr (.inl (by rw [←HPN.out];exact l2))
  have l2d:decide (64 < pn)=true:=decide_eq_true l2
  have HK:Hid (checkI s=3):=by show _=_;rw [checkI,if_neg n1,if_neg n2,if_neg n3,if_neg n4,if_pos p5]
  go_enter Tryz.func40,Tryz.ntmps40
  go_upto_region 1 with(fail)
  rw [←HW0.out]
  obtain⟨d0,d1,d2,d3,d4,d5,d6,d7,d8,d9,d10,d11,d12⟩:=HQ.out _ (Ex.refl _ _ w0)
  go_wp2_with (first | (go_at_call 66;refine(listsIn_any _ _ _ _).mono ?_;(first | rw [h1] | rw [h2] | rw [h2b] | rw [h3] | rw [h4] | skip);rintro e w' ⟨rfl,rfl⟩) | (go_at_call 67;refine(valueAny_any _ _).mono ?_;(first | rw [h5] | rw [h6] | rw [h7] | skip);rintro e w' ⟨rfl,rfl⟩) | (go_at_call 68;refine(asB (meantP_any s lo po ln lc pn pc w0) h8).mono ?_;rintro e w1 ⟨rfl,hex⟩;have HE1:=Lib.hid hex;have hz1:=hex.size;clear hex d0 d1 d2 d3 d4 d5 d6 d7 d8 d9 d10 d11 d12;obtain⟨d0,d1,d2,d3,d4,d5,d6,d7,d8,d9,d10,d11,d12⟩:=HQ.out _ HE1.out) | (go_at_call 69;refine(containsUnsaid_any _ s.list w1 (HLI.out _ (HE0.out.trans HE1.out hz0 (by simp))) (by rw [←HLN.out];exact hm1)).mono ?_;rw [h9];rintro e w' ⟨rfl,rfl⟩) | fail)
  go_ret
  exact⟨by rw [HK.out];rfl,(HE0.out.trans HE1.out hz0 (by simp))⟩
 have l2d:decide (64 < pn)=false:=decide_eq_false l2
 by_cases l3:4096 < s.body.size
 case pos=>
  have p5:64 < s.list.length∨64 < s.pins.length∨4096 < s.body.size:=.inr (.inr l3)
  have l3d:decide (4096 < s.body.size)=true:=decide_eq_true l3
  have HK:Hid (checkI s=3):=by show _=_;rw [checkI,if_neg n1,if_neg n2,if_neg n3,if_neg n4,if_pos p5]
  go_enter Tryz.func40,Tryz.ntmps40
  go_upto_region 1 with(fail)
  rw [←HW0.out]
  obtain⟨d0,d1,d2,d3,d4,d5,d6,d7,d8,d9,d10,d11,d12⟩:=HQ.out _ (Ex.refl _ _ w0)
  go_wp2_with (first | (go_at_call 66;refine(listsIn_any _ _ _ _).mono ?_;(first | rw [h1] | rw [h2] | rw [h2b] | rw [h3] | rw [h4] | skip);rintro e w' ⟨rfl,rfl⟩) | (go_at_call 67;refine(valueAny_any _ _).mono ?_;(first | rw [h5] | rw [h6] | rw [h7] | skip);rintro e w' ⟨rfl,rfl⟩) | (go_at_call 68;refine(asB (meantP_any s lo po ln lc pn pc w0) h8).mono ?_;rintro e w1 ⟨rfl,hex⟩;have HE1:=Lib.hid hex;have hz1:=hex.size;clear hex d0 d1 d2 d3 d4 d5 d6 d7 d8 d9 d10 d11 d12;obtain⟨d0,d1,d2,d3,d4,d5,d6,d7,d8,d9,d10,d11,d12⟩:=HQ.out _ HE1.out) | (go_at_call 69;refine(containsUnsaid_any _ s.list w1 (HLI.out _ (HE0.out.trans HE1.out hz0 (by simp))) (by rw [←HLN.out];exact hm1)).mono ?_;rw [h9];rintro e w' ⟨rfl,rfl⟩) | fail)
  go_ret
  exact⟨by rw [HK.out];rfl,(HE0.out.trans HE1.out hz0 (by simp))⟩
 have l3d:decide (4096 < s.body.size)=false:=decide_eq_false l3
 have n5 : ¬(64 < s.list.length∨64 < s.pins.length∨4096 < s.body.size):=by rw [←HLN.out,←HPN.out];omega
 by_cases z:s.number=0
 · have zd: (s.number == 0)=true:=by simp [z]
   have zp:decide (0 < s.number)=false:=decide_eq_false (by omega)
   by_cases e:s.prev= ⟨#[]⟩
   case neg=>
    obtain⟨f1,f2,f3⟩:=nonemptyS_facts e
    have p6: (s.number=0∧s.prev≠⟨#[]⟩)∨(0 < s.number∧s.prev.size≠32)∨pinsB s.pins=false:=.inl ⟨z,e⟩
    have HK:Hid (checkI s=1):=by show _=_;rw [checkI,if_neg n1,if_neg n2,if_neg n3,if_neg n4,if_neg n5,if_pos p6]
    clear p6 z e
    go_enter Tryz.func40,Tryz.ntmps40
    go_upto_region 1 with(fail)
    rw [←HW0.out]
    obtain⟨d0,d1,d2,d3,d4,d5,d6,d7,d8,d9,d10,d11,d12⟩:=HQ.out _ (Ex.refl _ _ w0)
    go_wp2_with (first | (go_at_call 66;refine(listsIn_any _ _ _ _).mono ?_;(first | rw [h1] | rw [h2] | rw [h2b] | rw [h3] | rw [h4] | skip);rintro e w' ⟨rfl,rfl⟩) | (go_at_call 67;refine(valueAny_any _ _).mono ?_;(first | rw [h5] | rw [h6] | rw [h7] | skip);rintro e w' ⟨rfl,rfl⟩) | (go_at_call 68;refine(asB (meantP_any s lo po ln lc pn pc w0) h8).mono ?_;rintro e w1 ⟨rfl,hex⟩;have HE1:=Lib.hid hex;have hz1:=hex.size;clear hex d0 d1 d2 d3 d4 d5 d6 d7 d8 d9 d10 d11 d12;obtain⟨d0,d1,d2,d3,d4,d5,d6,d7,d8,d9,d10,d11,d12⟩:=HQ.out _ HE1.out) | (go_at_call 69;refine(containsUnsaid_any _ s.list w1 (HLI.out _ (HE0.out.trans HE1.out hz0 (by simp))) (by rw [←HLN.out];exact hm1)).mono ?_;rw [h9];rintro e w' ⟨rfl,rfl⟩) | fail)
    go_ret
    exact⟨by rw [HK.out];rfl,(HE0.out.trans HE1.out hz0 (by simp))⟩
   obtain⟨f1,f2,f3⟩:=emptyS_facts e
   have f4:s.prev.toList=[]:=by rw [e];exact emptyS_list
   cases h10:pinsB s.pins
   case false=>
    have p6: (s.number=0∧s.prev≠⟨#[]⟩)∨(0 < s.number∧s.prev.size≠32)∨pinsB s.pins=false:=.inr (.inr h10)
    have HK:Hid (checkI s=1):=by show _=_;rw [checkI,if_neg n1,if_neg n2,if_neg n3,if_neg n4,if_neg n5,if_pos p6]
    clear p6 z e
    go_enter Tryz.func40,Tryz.ntmps40
    go_upto_region 1 with(fail)
    rw [←HW0.out]
    obtain⟨d0,d1,d2,d3,d4,d5,d6,d7,d8,d9,d10,d11,d12⟩:=HQ.out _ (Ex.refl _ _ w0)
    go_wp2_with (first | (go_at_call 66;refine(listsIn_any _ _ _ _).mono ?_;(first | rw [h1] | rw [h2] | rw [h2b] | rw [h3] | rw [h4] | skip);rintro e w' ⟨rfl,rfl⟩) | (go_at_call 67;refine(valueAny_any _ _).mono ?_;(first | rw [h5] | rw [h6] | rw [h7] | skip);rintro e w' ⟨rfl,rfl⟩) | (go_at_call 68;refine(asB (meantP_any s lo po ln lc pn pc w0) h8).mono ?_;rintro e w1 ⟨rfl,hex⟩;have HE1:=Lib.hid hex;have hz1:=hex.size;clear hex d0 d1 d2 d3 d4 d5 d6 d7 d8 d9 d10 d11 d12;obtain⟨d0,d1,d2,d3,d4,d5,d6,d7,d8,d9,d10,d11,d12⟩:=HQ.out _ HE1.out) | (go_at_call 69;refine(containsUnsaid_any _ s.list w1 (HLI.out _ (HE0.out.trans HE1.out hz0 (by simp))) (by rw [←HLN.out];exact hm1)).mono ?_;rw [h9];rintro e w' ⟨rfl,rfl⟩) | (go_at_call 71;refine(asB (pinned_any _ s.pins w1 (HPI.out _ (HE0.out.trans HE1.out hz0 (by simp))) (by rw [←HPN.out];exact hm2)) h10).mono ?_;rintro e w2 ⟨rfl,hex⟩;have HE2:=Lib.hid hex;clear hex d0 d1 d2 d3 d4 d5 d6 d7 d8 d9 d10 d11 d12;obtain⟨d0,d1,d2,d3,d4,d5,d6,d7,d8,d9,d10,d11,d12⟩:=HQ.out _ (HE1.out.trans HE2.out hz1 (by simp))) | fail)
    go_ret
    exact⟨by rw [HK.out];rfl,((HE0.out.trans HE1.out hz0 (by simp)).trans HE2.out (by omega) (by simp))⟩
   have n6 : ¬((s.number=0∧s.prev≠⟨#[]⟩)∨(0 < s.number∧s.prev.size≠32)∨pinsB s.pins=false):=by
    rintro(⟨x1,x2⟩ | ⟨x1,x2⟩ | x3)
    · exact x2 e
    · omega
    · rw [h10] at x3;cases x3
   by_cases e0:ln=0∧pn=0∧s.body.size=0
   case neg=>
    have p7:s.kind≤3∧(0 < s.list.length∨0 < s.pins.length∨s.body≠⟨#[]⟩):=⟨by omega,by
     rw [←HLN.out,←HPN.out]
     by_cases q1:0 < ln
     · exact .inl q1
     by_cases q2:0 < pn
     · exact .inr (.inl q2)
     exact .inr (.inr (fun hb=>e0 ⟨by omega,by omega,by rw [hb];rfl⟩))⟩
    have e0d:decide ((0:Int) < (ln:Int)+ (pn:Int)+ (s.body.size:Int))=true:=decide_eq_true (by omega)
    have e1d:0 < ln+pn+s.body.size:=by omega
    have HK:Hid (checkI s=1):=by show _=_;rw [checkI,if_neg n1,if_neg n2,if_neg n3,if_neg n4,if_neg n5,if_neg n6,if_pos p7]
    clear p7 n6 z e
    go_enter Tryz.func40,Tryz.ntmps40
    go_upto_region 1 with(fail)
    rw [←HW0.out]
    obtain⟨d0,d1,d2,d3,d4,d5,d6,d7,d8,d9,d10,d11,d12⟩:=HQ.out _ (Ex.refl _ _ w0)
    go_wp2_with (first | (go_at_call 66;refine(listsIn_any _ _ _ _).mono ?_;(first | rw [h1] | rw [h2] | rw [h2b] | rw [h3] | rw [h4] | skip);rintro e w' ⟨rfl,rfl⟩) | (go_at_call 67;refine(valueAny_any _ _).mono ?_;(first | rw [h5] | rw [h6] | rw [h7] | skip);rintro e w' ⟨rfl,rfl⟩) | (go_at_call 68;refine(asB (meantP_any s lo po ln lc pn pc w0) h8).mono ?_;rintro e w1 ⟨rfl,hex⟩;have HE1:=Lib.hid hex;have hz1:=hex.size;clear hex d0 d1 d2 d3 d4 d5 d6 d7 d8 d9 d10 d11 d12;obtain⟨d0,d1,d2,d3,d4,d5,d6,d7,d8,d9,d10,d11,d12⟩:=HQ.out _ HE1.out) | (go_at_call 69;refine(containsUnsaid_any _ s.list w1 (HLI.out _ (HE0.out.trans HE1.out hz0 (by simp))) (by rw [←HLN.out];exact hm1)).mono ?_;rw [h9];rintro e w' ⟨rfl,rfl⟩) | (go_at_call 71;refine(asB (pinned_any _ s.pins w1 (HPI.out _ (HE0.out.trans HE1.out hz0 (by simp))) (by rw [←HPN.out];exact hm2)) h10).mono ?_;rintro e w2 ⟨rfl,hex⟩;have HE2:=Lib.hid hex;clear hex d0 d1 d2 d3 d4 d5 d6 d7 d8 d9 d10 d11 d12;obtain⟨d0,d1,d2,d3,d4,d5,d6,d7,d8,d9,d10,d11,d12⟩:=HQ.out _ (HE1.out.trans HE2.out hz1 (by simp))) | fail)
    go_ret
    exact⟨by rw [HK.out];rfl,((HE0.out.trans HE1.out hz0 (by simp)).trans HE2.out (by omega) (by simp))⟩
   have n7 : ¬(s.kind≤3∧(0 < s.list.length∨0 < s.pins.length∨s.body≠⟨#[]⟩)):=by
    rintro⟨_,x | x | x⟩
    · rw [←HLN.out] at x;omega
    · rw [←HPN.out] at x;omega
    · exact x (bytes_empty e0.2.2)
   have e0d:decide ((0:Int) < (ln:Int)+ (pn:Int)+ (s.body.size:Int))=false:=decide_eq_false (by omega)
   have e1d:decide (0 < ln+pn+s.body.size)=false:=decide_eq_false (by omega)
   clear e0
   have HK:Hid (checkI s=0):=by show _=_;rw [checkI,if_neg n1,if_neg n2,if_neg n3,if_neg n4,if_neg n5,if_neg n6,if_neg n7]
   clear n6 n7 z e
   go_enter Tryz.func40,Tryz.ntmps40
   go_upto_region 1 with(fail)
   rw [←HW0.out]
   obtain⟨d0,d1,d2,d3,d4,d5,d6,d7,d8,d9,d10,d11,d12⟩:=HQ.out _ (Ex.refl _ _ w0)
   go_wp2_with (first | (go_at_call 66;refine(listsIn_any _ _ _ _).mono ?_;(first | rw [h1] | rw [h2] | rw [h2b] | rw [h3] | rw [h4] | skip);rintro e w' ⟨rfl,rfl⟩) | (go_at_call 67;refine(valueAny_any _ _).mono ?_;(first | rw [h5] | rw [h6] | rw [h7] | skip);rintro e w' ⟨rfl,rfl⟩) | (go_at_call 68;refine(asB (meantP_any s lo po ln lc pn pc w0) h8).mono ?_;rintro e w1 ⟨rfl,hex⟩;have HE1:=Lib.hid hex;have hz1:=hex.size;clear hex d0 d1 d2 d3 d4 d5 d6 d7 d8 d9 d10 d11 d12;obtain⟨d0,d1,d2,d3,d4,d5,d6,d7,d8,d9,d10,d11,d12⟩:=HQ.out _ HE1.out) | (go_at_call 69;refine(containsUnsaid_any _ s.list w1 (HLI.out _ (HE0.out.trans HE1.out hz0 (by simp))) (by rw [←HLN.out];exact hm1)).mono ?_;rw [h9];rintro e w' ⟨rfl,rfl⟩) | (go_at_call 71;refine(asB (pinned_any _ s.pins w1 (HPI.out _ (HE0.out.trans HE1.out hz0 (by simp))) (by rw [←HPN.out];exact hm2)) h10).mono ?_;rintro e w2 ⟨rfl,hex⟩;have HE2:=Lib.hid hex;clear hex d0 d1 d2 d3 d4 d5 d6 d7 d8 d9 d10 d11 d12;obtain⟨d0,d1,d2,d3,d4,d5,d6,d7,d8,d9,d10,d11,d12⟩:=HQ.out _ (HE1.out.trans HE2.out hz1 (by simp))) | fail)
   go_ret
   exact⟨by rw [HK.out];rfl,((HE0.out.trans HE1.out hz0 (by simp)).trans HE2.out (by omega) (by simp))⟩
 · have zd: (s.number == 0)=false:=by simpa using z
   have zp:decide (0 < s.number)=true:=decide_eq_true (by omega)
   by_cases e:s.prev.size=32
   case neg=>
    have ed: ((s.prev.size:Int) != 32)=true:=by simp;omega
    have p6: (s.number=0∧s.prev≠⟨#[]⟩)∨(0 < s.number∧s.prev.size≠32)∨pinsB s.pins=false:=.inr (.inl ⟨by omega,e⟩)
    have HK:Hid (checkI s=1):=by show _=_;rw [checkI,if_neg n1,if_neg n2,if_neg n3,if_neg n4,if_neg n5,if_pos p6]
    clear p6 z e
    go_enter Tryz.func40,Tryz.ntmps40
    go_upto_region 1 with(fail)
    rw [←HW0.out]
    obtain⟨d0,d1,d2,d3,d4,d5,d6,d7,d8,d9,d10,d11,d12⟩:=HQ.out _ (Ex.refl _ _ w0)
    go_wp2_with (first | (go_at_call 66;refine(listsIn_any _ _ _ _).mono ?_;(first | rw [h1] | rw [h2] | rw [h2b] | rw [h3] | rw [h4] | skip);rintro e w' ⟨rfl,rfl⟩) | (go_at_call 67;refine(valueAny_any _ _).mono ?_;(first | rw [h5] | rw [h6] | rw [h7] | skip);rintro e w' ⟨rfl,rfl⟩) | (go_at_call 68;refine(asB (meantP_any s lo po ln lc pn pc w0) h8).mono ?_;rintro e w1 ⟨rfl,hex⟩;have HE1:=Lib.hid hex;have hz1:=hex.size;clear hex d0 d1 d2 d3 d4 d5 d6 d7 d8 d9 d10 d11 d12;obtain⟨d0,d1,d2,d3,d4,d5,d6,d7,d8,d9,d10,d11,d12⟩:=HQ.out _ HE1.out) | (go_at_call 69;refine(containsUnsaid_any _ s.list w1 (HLI.out _ (HE0.out.trans HE1.out hz0 (by simp))) (by rw [←HLN.out];exact hm1)).mono ?_;rw [h9];rintro e w' ⟨rfl,rfl⟩) | fail)
    go_ret
    exact⟨by rw [HK.out];rfl,(HE0.out.trans HE1.out hz0 (by simp))⟩
   have ed: ((s.prev.size:Int) != 32)=false:=by simp [e]
   cases h10:pinsB s.pins
   case false=>
    have p6: (s.number=0∧s.prev≠⟨#[]⟩)∨(0 < s.number∧s.prev.size≠32)∨pinsB s.pins=false:=.inr (.inr h10)
    have HK:Hid (checkI s=1):=by show _=_;rw [checkI,if_neg n1,if_neg n2,if_neg n3,if_neg n4,if_neg n5,if_pos p6]
    clear p6 z e
    go_enter Tryz.func40,Tryz.ntmps40
    go_upto_region 1 with(fail)
    rw [←HW0.out]
    obtain⟨d0,d1,d2,d3,d4,d5,d6,d7,d8,d9,d10,d11,d12⟩:=HQ.out _ (Ex.refl _ _ w0)
    go_wp2_with (first | (go_at_call 66;refine(listsIn_any _ _ _ _).mono ?_;(first | rw [h1] | rw [h2] | rw [h2b] | rw [h3] | rw [h4] | skip);rintro e w' ⟨rfl,rfl⟩) | (go_at_call 67;refine(valueAny_any _ _).mono ?_;(first | rw [h5] | rw [h6] | rw [h7] | skip);rintro e w' ⟨rfl,rfl⟩) | (go_at_call 68;refine(asB (meantP_any s lo po ln lc pn pc w0) h8).mono ?_;rintro e w1 ⟨rfl,hex⟩;have HE1:=Lib.hid hex;have hz1:=hex.size;clear hex d0 d1 d2 d3 d4 d5 d6 d7 d8 d9 d10 d11 d12;obtain⟨d0,d1,d2,d3,d4,d5,d6,d7,d8,d9,d10,d11,d12⟩:=HQ.out _ HE1.out) | (go_at_call 69;refine(containsUnsaid_any _ s.list w1 (HLI.out _ (HE0.out.trans HE1.out hz0 (by simp))) (by rw [←HLN.out];exact hm1)).mono ?_;rw [h9];rintro e w' ⟨rfl,rfl⟩) | (go_at_call 71;refine(asB (pinned_any _ s.pins w1 (HPI.out _ (HE0.out.trans HE1.out hz0 (by simp))) (by rw [←HPN.out];exact hm2)) h10).mono ?_;rintro e w2 ⟨rfl,hex⟩;have HE2:=Lib.hid hex;clear hex d0 d1 d2 d3 d4 d5 d6 d7 d8 d9 d10 d11 d12;obtain⟨d0,d1,d2,d3,d4,d5,d6,d7,d8,d9,d10,d11,d12⟩:=HQ.out _ (HE1.out.trans HE2.out hz1 (by simp))) | fail)
    go_ret
    exact⟨by rw [HK.out];rfl,((HE0.out.trans HE1.out hz0 (by simp)).trans HE2.out (by omega) (by simp))⟩
   have n6 : ¬((s.number=0∧s.prev≠⟨#[]⟩)∨(0 < s.number∧s.prev.size≠32)∨pinsB s.pins=false):=by
    rintro(⟨x1,x2⟩ | ⟨x1,x2⟩ | x3)
    · exact z x1
    · exact x2 e
    · rw [h10] at x3;cases x3
   by_cases e0:ln=0∧pn=0∧s.body.size=0
   case neg=>
    have p7:s.kind≤3∧(0 < s.list.length∨0 < s.pins.length∨s.body≠⟨#[]⟩):=⟨by omega,by
     rw [←HLN.out,←HPN.out]
     by_cases q1:0 < ln
     · exact .inl q1
     by_cases q2:0 < pn
     · exact .inr (.inl q2)
     exact .inr (.inr (fun hb=>e0 ⟨by omega,by omega,by rw [hb];rfl⟩))⟩
    have e0d:decide ((0:Int) < (ln:Int)+ (pn:Int)+ (s.body.size:Int))=true:=decide_eq_true (by omega)
    have e1d:0 < ln+pn+s.body.size:=by omega
    have HK:Hid (checkI s=1):=by show _=_;rw [checkI,if_neg n1,if_neg n2,if_neg n3,if_neg n4,if_neg n5,if_neg n6,if_pos p7]
    clear p7 n6 z e
    go_enter Tryz.func40,Tryz.ntmps40
    go_upto_region 1 with(fail)
    rw [←HW0.out]
    obtain⟨d0,d1,d2,d3,d4,d5,d6,d7,d8,d9,d10,d11,d12⟩:=HQ.out _ (Ex.refl _ _ w0)
    go_wp2_with (first | (go_at_call 66;refine(listsIn_any _ _ _ _).mono ?_;(first | rw [h1] | rw [h2] | rw [h2b] | rw [h3] | rw [h4] | skip);rintro e w' ⟨rfl,rfl⟩) | (go_at_call 67;refine(valueAny_any _ _).mono ?_;(first | rw [h5] | rw [h6] | rw [h7] | skip);rintro e w' ⟨rfl,rfl⟩) | (go_at_call 68;refine(asB (meantP_any s lo po ln lc pn pc w0) h8).mono ?_;rintro e w1 ⟨rfl,hex⟩;have HE1:=Lib.hid hex;have hz1:=hex.size;clear hex d0 d1 d2 d3 d4 d5 d6 d7 d8 d9 d10 d11 d12;obtain⟨d0,d1,d2,d3,d4,d5,d6,d7,d8,d9,d10,d11,d12⟩:=HQ.out _ HE1.out) | (go_at_call 69;refine(containsUnsaid_any _ s.list w1 (HLI.out _ (HE0.out.trans HE1.out hz0 (by simp))) (by rw [←HLN.out];exact hm1)).mono ?_;rw [h9];rintro e w' ⟨rfl,rfl⟩) | (go_at_call 71;refine(asB (pinned_any _ s.pins w1 (HPI.out _ (HE0.out.trans HE1.out hz0 (by simp))) (by rw [←HPN.out];exact hm2)) h10).mono ?_;rintro e w2 ⟨rfl,hex⟩;have HE2:=Lib.hid hex;clear hex d0 d1 d2 d3 d4 d5 d6 d7 d8 d9 d10 d11 d12;obtain⟨d0,d1,d2,d3,d4,d5,d6,d7,d8,d9,d10,d11,d12⟩:=HQ.out _ (HE1.out.trans HE2.out hz1 (by simp))) | fail)
    go_ret
    exact⟨by rw [HK.out];rfl,((HE0.out.trans HE1.out hz0 (by simp)).trans HE2.out (by omega) (by simp))⟩
   have n7 : ¬(s.kind≤3∧(0 < s.list.length∨0 < s.pins.length∨s.body≠⟨#[]⟩)):=by
    rintro⟨_,x | x | x⟩
    · rw [←HLN.out] at x;omega
    · rw [←HPN.out] at x;omega
    · exact x (bytes_empty e0.2.2)
   have e0d:decide ((0:Int) < (ln:Int)+ (pn:Int)+ (s.body.size:Int))=false:=decide_eq_false (by omega)
   have e1d:decide (0 < ln+pn+s.body.size)=false:=decide_eq_false (by omega)
   clear e0
   have HK:Hid (checkI s=0):=by show _=_;rw [checkI,if_neg n1,if_neg n2,if_neg n3,if_neg n4,if_neg n5,if_neg n6,if_neg n7]
   clear n6 n7 z e
   go_enter Tryz.func40,Tryz.ntmps40
   go_upto_region 1 with(fail)
   rw [←HW0.out]
   obtain⟨d0,d1,d2,d3,d4,d5,d6,d7,d8,d9,d10,d11,d12⟩:=HQ.out _ (Ex.refl _ _ w0)
   go_wp2_with (first | (go_at_call 66;refine(listsIn_any _ _ _ _).mono ?_;(first | rw [h1] | rw [h2] | rw [h2b] | rw [h3] | rw [h4] | skip);rintro e w' ⟨rfl,rfl⟩) | (go_at_call 67;refine(valueAny_any _ _).mono ?_;(first | rw [h5] | rw [h6] | rw [h7] | skip);rintro e w' ⟨rfl,rfl⟩) | (go_at_call 68;refine(asB (meantP_any s lo po ln lc pn pc w0) h8).mono ?_;rintro e w1 ⟨rfl,hex⟩;have HE1:=Lib.hid hex;have hz1:=hex.size;clear hex d0 d1 d2 d3 d4 d5 d6 d7 d8 d9 d10 d11 d12;obtain⟨d0,d1,d2,d3,d4,d5,d6,d7,d8,d9,d10,d11,d12⟩:=HQ.out _ HE1.out) | (go_at_call 69;refine(containsUnsaid_any _ s.list w1 (HLI.out _ (HE0.out.trans HE1.out hz0 (by simp))) (by rw [←HLN.out];exact hm1)).mono ?_;rw [h9];rintro e w' ⟨rfl,rfl⟩) | (go_at_call 71;refine(asB (pinned_any _ s.pins w1 (HPI.out _ (HE0.out.trans HE1.out hz0 (by simp))) (by rw [←HPN.out];exact hm2)) h10).mono ?_;rintro e w2 ⟨rfl,hex⟩;have HE2:=Lib.hid hex;clear hex d0 d1 d2 d3 d4 d5 d6 d7 d8 d9 d10 d11 d12;obtain⟨d0,d1,d2,d3,d4,d5,d6,d7,d8,d9,d10,d11,d12⟩:=HQ.out _ (HE1.out.trans HE2.out hz1 (by simp))) | fail)
   go_ret
   exact⟨by rw [HK.out];rfl,((HE0.out.trans HE1.out hz0 (by simp)).trans HE2.out (by omega) (by simp))⟩
set_option maxHeartbeats 16000000 in
set_option maxRecDepth 100000 in
theorem checkOther_any {P:Nat→Prop} (s:St) (lo po:Option Addr) (ln lc pn pc:Nat) (w:World) (hs:Lies P w (s,⟨lo,ln,lc⟩,⟨po,pn,pc⟩)) (hm:ln≤9223372036854775807∧pn≤9223372036854775807) (a1:0≤s.author∧s.author≤63) (a2:10≤s.kind∧s.kind≤31) :
 Calls Tryz.prog 40 #[.agg #[.int .i64 s.author,.int .i64 s.number,.string s.prev,.int .i64 s.time,.int .i64 s.kind,.int .i64 s.a,.int .i64 s.b,.int .i64 s.c,.slice lo ln lc,.slice po pn pc,.string s.body,.int .i64 s.key,.string s.dig]] w fun e w'=>e=.returned (.int .i64 (checkI s))∧Ex w.heap.size none w w':=by
 have HLN:Hid (ln=s.list.length):=by obtain⟨⟨_,_,e,_⟩,_⟩:=hs;simp only [Sv.v] at e;cases e;exact rfl
 have HPN:Hid (pn=s.pins.length):=by obtain⟨_,⟨_,_,e,_⟩⟩:=hs;simp only [Sv.v] at e;cases e;exact rfl
 obtain⟨hm1,hm2⟩:=hm
 obtain⟨w0,hw0⟩:∃w0:World,w0=w.alloc (.cells #[.int .i64 s.author,.int .i64 s.number,.string s.prev,.int .i64 s.time,.int .i64 s.kind,.int .i64 s.a,.int .i64 s.b,.int .i64 s.c,.slice lo ln lc,.slice po pn pc,.string s.body,.int .i64 s.key,.string s.dig] 51):=⟨_,rfl⟩
 have HE0:Hid (Ex w.heap.size none w w0):=Lib.hid (by rw [hw0];exact Ex.new w _)
 have hz0:w.heap.size≤w0.heap.size:=by rw [hw0];simp
 have HQ:=Lib.hid (stBox_cells s lo po ln lc pn pc w w0 hw0)
 have HW0:=Lib.hid hw0
 have HLI:Hid (∀w',Ex w.heap.size none w w'→Ints w' (.slice lo ln lc) s.list):=Lib.hid (fun w' h=>(sl_ints hs.1).keep h (Nat.le_refl _))
 have HPI:Hid (∀w',Ex w.heap.size none w w'→Sl pinRep P w' (.slice po pn pc) s.pins):=Lib.hid (fun w' h=>hs.2.keep (by decide) (fun b _ hb=>h.block b hb (by simp)))
 clear hs hw0
 have h1: (decide (0≤s.author) && decide (s.author≤63))=true:=by simp [a1]
 have n1 : ¬keyB s.author=false:=by simp [keyB];omega
 have h2: (decide (1≤s.kind) && decide (s.kind≤3))=false:=by simp;omega
 have h2b: (decide (10≤s.kind) && decide (s.kind≤31))=true:=by simp [a2]
 have h2p:decide (s.kind≤3)=false:=by simp;omega
 have n2 : ¬(s.kind < 1∨(3 < s.kind∧s.kind < 10)∨31 < s.kind):=by omega
 cases h3q:inB s.time 2147483648
 case false=>
  have h3: (decide (0≤s.time) && decide (s.time≤2147483648))=false:=h3q
  have HK:Hid (checkI s=9):=by show _=_;rw [checkI,if_neg n1,if_neg n2,if_pos h3q]
  go_enter Tryz.func40,Tryz.ntmps40
  go_upto_region 1 with(fail)
  rw [←HW0.out]
  obtain⟨d0,d1,d2,d3,d4,d5,d6,d7,d8,d9,d10,d11,d12⟩:=HQ.out _ (Ex.refl _ _ w0)
  go_wp2_with (first | (go_at_call 66;refine(listsIn_any _ _ _ _).mono ?_;(first | rw [h1] | rw [h2] | rw [h2b] | rw [h3] | rw [h4] | skip);rintro e w' ⟨rfl,rfl⟩) | (go_at_call 67;refine(valueAny_any _ _).mono ?_;(first | rw [h5] | rw [h6] | rw [h7] | skip);rintro e w' ⟨rfl,rfl⟩) | fail)
  go_ret
  exact⟨by rw [HK.out];rfl,HE0.out⟩
 have h3: (decide (0≤s.time) && decide (s.time≤2147483648))=true:=h3q
 have n3 : ¬inB s.time 2147483648=false:=by rw [h3q];decide
 cases h4q:inB s.number 199
 case false=>
  have h4: (decide (0≤s.number) && decide (s.number≤199))=false:=h4q
  have p4:numB s=false:=by simp [numB,M40,h4q]
  have HK:Hid (checkI s=2):=by show _=_;rw [checkI,if_neg n1,if_neg n2,if_neg n3,if_pos p4]
  go_enter Tryz.func40,Tryz.ntmps40
  go_upto_region 1 with(fail)
  rw [←HW0.out]
  obtain⟨d0,d1,d2,d3,d4,d5,d6,d7,d8,d9,d10,d11,d12⟩:=HQ.out _ (Ex.refl _ _ w0)
  go_wp2_with (first | (go_at_call 66;refine(listsIn_any _ _ _ _).mono ?_;(first | rw [h1] | rw [h2] | rw [h2b] | rw [h3] | rw [h4] | skip);rintro e w' ⟨rfl,rfl⟩) | (go_at_call 67;refine(valueAny_any _ _).mono ?_;(first | rw [h5] | rw [h6] | rw [h7] | skip);rintro e w' ⟨rfl,rfl⟩) | fail)
  go_ret
  exact⟨by rw [HK.out];rfl,HE0.out⟩
 have h4: (decide (0≤s.number) && decide (s.number≤199))=true:=h4q
 cases h5:inB s.a 1099511627776
 case false=>
  have p4:numB s=false:=by simp [numB,M40,h4q,h5]
  have HK:Hid (checkI s=2):=by show _=_;rw [checkI,if_neg n1,if_neg n2,if_neg n3,if_pos p4]
  go_enter Tryz.func40,Tryz.ntmps40
  go_upto_region 1 with(fail)
  rw [←HW0.out]
  obtain⟨d0,d1,d2,d3,d4,d5,d6,d7,d8,d9,d10,d11,d12⟩:=HQ.out _ (Ex.refl _ _ w0)
  go_wp2_with (first | (go_at_call 66;refine(listsIn_any _ _ _ _).mono ?_;(first | rw [h1] | rw [h2] | rw [h2b] | rw [h3] | rw [h4] | skip);rintro e w' ⟨rfl,rfl⟩) | (go_at_call 67;refine(valueAny_any _ _).mono ?_;(first | rw [h5] | rw [h6] | rw [h7] | skip);rintro e w' ⟨rfl,rfl⟩) | fail)
  go_ret
  exact⟨by rw [HK.out];rfl,HE0.out⟩
 cases h6:inB s.b 1099511627776
 case false=>
  have p4:numB s=false:=by simp [numB,M40,h4q,h5,h6]
  have HK:Hid (checkI s=2):=by show _=_;rw [checkI,if_neg n1,if_neg n2,if_neg n3,if_pos p4]
  go_enter Tryz.func40,Tryz.ntmps40
  go_upto_region 1 with(fail)
  rw [←HW0.out]
  obtain⟨d0,d1,d2,d3,d4,d5,d6,d7,d8,d9,d10,d11,d12⟩:=HQ.out _ (Ex.refl _ _ w0)
  go_wp2_with (first | (go_at_call 66;refine(listsIn_any _ _ _ _).mono ?_;(first | rw [h1] | rw [h2] | rw [h2b] | rw [h3] | rw [h4] | skip);rintro e w' ⟨rfl,rfl⟩) | (go_at_call 67;refine(valueAny_any _ _).mono ?_;(first | rw [h5] | rw [h6] | rw [h7] | skip);rintro e w' ⟨rfl,rfl⟩) | fail)
  go_ret
  exact⟨by rw [HK.out];rfl,HE0.out⟩
 cases h7:inB s.c 1099511627776
 case false=>
  have p4:numB s=false:=by simp [numB,M40,h4q,h5,h6,h7]
  have HK:Hid (checkI s=2):=by show _=_;rw [checkI,if_neg n1,if_neg n2,if_neg n3,if_pos p4]
  go_enter Tryz.func40,Tryz.ntmps40
  go_upto_region 1 with(fail)
  rw [←HW0.out]
  obtain⟨d0,d1,d2,d3,d4,d5,d6,d7,d8,d9,d10,d11,d12⟩:=HQ.out _ (Ex.refl _ _ w0)
  go_wp2_with (first | (go_at_call 66;refine(listsIn_any _ _ _ _).mono ?_;(first | rw [h1] | rw [h2] | rw [h2b] | rw [h3] | rw [h4] | skip);rintro e w' ⟨rfl,rfl⟩) | (go_at_call 67;refine(valueAny_any _ _).mono ?_;(first | rw [h5] | rw [h6] | rw [h7] | skip);rintro e w' ⟨rfl,rfl⟩) | fail)
  go_ret
  exact⟨by rw [HK.out];rfl,HE0.out⟩
 cases h9q:saidB s.list
 case false=>
  have h9: (!saidB s.list)=true:=by rw [h9q];rfl
  have p4:numB s=false:=by
   have hq:=h9q
   unfold saidB at hq
   simp only [numB,M40,hq,Bool.and_false,Bool.false_and]
  cases h8:kindB s
  case false=>
   have HK:Hid (checkI s=2):=by show _=_;rw [checkI,if_neg n1,if_neg n2,if_neg n3,if_pos p4]
   go_enter Tryz.func40,Tryz.ntmps40
   go_upto_region 1 with(fail)
   rw [←HW0.out]
   obtain⟨d0,d1,d2,d3,d4,d5,d6,d7,d8,d9,d10,d11,d12⟩:=HQ.out _ (Ex.refl _ _ w0)
   go_wp2_with (first | (go_at_call 66;refine(listsIn_any _ _ _ _).mono ?_;(first | rw [h1] | rw [h2] | rw [h2b] | rw [h3] | rw [h4] | skip);rintro e w' ⟨rfl,rfl⟩) | (go_at_call 67;refine(valueAny_any _ _).mono ?_;(first | rw [h5] | rw [h6] | rw [h7] | skip);rintro e w' ⟨rfl,rfl⟩) | (go_at_call 68;refine(asB (meantP_any s lo po ln lc pn pc w0) h8).mono ?_;rintro e w1 ⟨rfl,hex⟩;have HE1:=Lib.hid hex;have hz1:=hex.size;clear hex d0 d1 d2 d3 d4 d5 d6 d7 d8 d9 d10 d11 d12;obtain⟨d0,d1,d2,d3,d4,d5,d6,d7,d8,d9,d10,d11,d12⟩:=HQ.out _ HE1.out) | (go_at_call 69;refine(containsUnsaid_any _ s.list w1 (HLI.out _ (HE0.out.trans HE1.out hz0 (by simp))) (by rw [←HLN.out];exact hm1)).mono ?_;rw [h9];rintro e w' ⟨rfl,rfl⟩) | fail)
   go_ret
   exact⟨by rw [HK.out];rfl,(HE0.out.trans HE1.out hz0 (by simp))⟩
  case true=>
   have HK:Hid (checkI s=2):=by show _=_;rw [checkI,if_neg n1,if_neg n2,if_neg n3,if_pos p4]
   go_enter Tryz.func40,Tryz.ntmps40
   go_upto_region 1 with(fail)
   rw [←HW0.out]
   obtain⟨d0,d1,d2,d3,d4,d5,d6,d7,d8,d9,d10,d11,d12⟩:=HQ.out _ (Ex.refl _ _ w0)
   go_wp2_with (first | (go_at_call 66;refine(listsIn_any _ _ _ _).mono ?_;(first | rw [h1] | rw [h2] | rw [h2b] | rw [h3] | rw [h4] | skip);rintro e w' ⟨rfl,rfl⟩) | (go_at_call 67;refine(valueAny_any _ _).mono ?_;(first | rw [h5] | rw [h6] | rw [h7] | skip);rintro e w' ⟨rfl,rfl⟩) | (go_at_call 68;refine(asB (meantP_any s lo po ln lc pn pc w0) h8).mono ?_;rintro e w1 ⟨rfl,hex⟩;have HE1:=Lib.hid hex;have hz1:=hex.size;clear hex d0 d1 d2 d3 d4 d5 d6 d7 d8 d9 d10 d11 d12;obtain⟨d0,d1,d2,d3,d4,d5,d6,d7,d8,d9,d10,d11,d12⟩:=HQ.out _ HE1.out) | (go_at_call 69;refine(containsUnsaid_any _ s.list w1 (HLI.out _ (HE0.out.trans HE1.out hz0 (by simp))) (by rw [←HLN.out];exact hm1)).mono ?_;rw [h9];rintro e w' ⟨rfl,rfl⟩) | fail)
   go_ret
   exact⟨by rw [HK.out];rfl,(HE0.out.trans HE1.out hz0 (by simp))⟩
 have h9: (!saidB s.list)=false:=by rw [h9q];rfl
 cases h8:kindB s
 case false=>
  have p4:numB s=false:=by simp [numB,h8]
  have HK:Hid (checkI s=2):=by show _=_;rw [checkI,if_neg n1,if_neg n2,if_neg n3,if_pos p4]
  go_enter Tryz.func40,Tryz.ntmps40
  go_upto_region 1 with(fail)
  rw [←HW0.out]
  obtain⟨d0,d1,d2,d3,d4,d5,d6,d7,d8,d9,d10,d11,d12⟩:=HQ.out _ (Ex.refl _ _ w0)
  go_wp2_with (first | (go_at_call 66;refine(listsIn_any _ _ _ _).mono ?_;(first | rw [h1] | rw [h2] | rw [h2b] | rw [h3] | rw [h4] | skip);rintro e w' ⟨rfl,rfl⟩) | (go_at_call 67;refine(valueAny_any _ _).mono ?_;(first | rw [h5] | rw [h6] | rw [h7] | skip);rintro e w' ⟨rfl,rfl⟩) | (go_at_call 68;refine(asB (meantP_any s lo po ln lc pn pc w0) h8).mono ?_;rintro e w1 ⟨rfl,hex⟩;have HE1:=Lib.hid hex;have hz1:=hex.size;clear hex d0 d1 d2 d3 d4 d5 d6 d7 d8 d9 d10 d11 d12;obtain⟨d0,d1,d2,d3,d4,d5,d6,d7,d8,d9,d10,d11,d12⟩:=HQ.out _ HE1.out) | (go_at_call 69;refine(containsUnsaid_any _ s.list w1 (HLI.out _ (HE0.out.trans HE1.out hz0 (by simp))) (by rw [←HLN.out];exact hm1)).mono ?_;rw [h9];rintro e w' ⟨rfl,rfl⟩) | fail)
  go_ret
  exact⟨by rw [HK.out];rfl,(HE0.out.trans HE1.out hz0 (by simp))⟩
 have n4 : ¬numB s=false:=by
  have hq:=h9q
  unfold saidB at hq
  simp only [numB,M40,h4q,h5,h6,h7,h8,hq]
  decide
 have hnn:0≤s.number:=(inB_iff.1 h4q).1
 by_cases l1:64 < ln
 case pos=>
  have p5:64 < s.list.length∨64 < s.pins.length∨4096 < s.body.size:=.inl (by rw [←HLN.out];exact l1)
  have l1d:decide (64 < ln)=true:=decide_eq_true l1
  have HK:Hid (checkI s=3):=by show _=_;rw [checkI,if_neg n1,if_neg n2,if_neg n3,if_neg n4,if_pos p5]
  go_enter Tryz.func40,Tryz.ntmps40
  go_upto_region 1 with(fail)
  rw [←HW0.out]
  obtain⟨d0,d1,d2,d3,d4,d5,d6,d7,d8,d9,d10,d11,d12⟩:=HQ.out _ (Ex.refl _ _ w0)
  go_wp2_with (first | (go_at_call 66;refine(listsIn_any _ _ _ _).mono ?_;(first | rw [h1] | rw [h2] | rw [h2b] | rw [h3] | rw [h4] | skip);rintro e w' ⟨rfl,rfl⟩) | (go_at_call 67;refine(valueAny_any _ _).mono ?_;(first | rw [h5] | rw [h6] | rw [h7] | skip);rintro e w' ⟨rfl,rfl⟩) | (go_at_call 68;refine(asB (meantP_any s lo po ln lc pn pc w0) h8).mono ?_;rintro e w1 ⟨rfl,hex⟩;have HE1:=Lib.hid hex;have hz1:=hex.size;clear hex d0 d1 d2 d3 d4 d5 d6 d7 d8 d9 d10 d11 d12;obtain⟨d0,d1,d2,d3,d4,d5,d6,d7,d8,d9,d10,d11,d12⟩:=HQ.out _ HE1.out) | (go_at_call 69;refine(containsUnsaid_any _ s.list w1 (HLI.out _ (HE0.out.trans HE1.out hz0 (by simp))) (by rw [←HLN.out];exact hm1)).mono ?_;rw [h9];rintro e w' ⟨rfl,rfl⟩) | fail)
  go_ret
  exact⟨by rw [HK.out];rfl,(HE0.out.trans HE1.out hz0 (by simp))⟩
 have l1d:decide (64 < ln)=false:=decide_eq_false l1
 by_cases l2:64 < pn
 case pos=>
  have p5:64 < s.list.length∨64 < s.pins.length∨4096 < s.body.size:=.inr (.inl (by rw [←HPN.out];exact l2))
  have l2d:decide (64 < pn)=true:=decide_eq_true l2
  have HK:Hid (checkI s=3):=by show _=_;rw [checkI,if_neg n1,if_neg n2,if_neg n3,if_neg n4,if_pos p5]
  go_enter Tryz.func40,Tryz.ntmps40
  go_upto_region 1 with(fail)
  rw [←HW0.out]
  obtain⟨d0,d1,d2,d3,d4,d5,d6,d7,d8,d9,d10,d11,d12⟩:=HQ.out _ (Ex.refl _ _ w0)
  go_wp2_with (first | (go_at_call 66;refine(listsIn_any _ _ _ _).mono ?_;(first | rw [h1] | rw [h2] | rw [h2b] | rw [h3] | rw [h4] | skip);rintro e w' ⟨rfl,rfl⟩) | (go_at_call 67;refine(valueAny_any _ _).mono ?_;(first | rw [h5] | rw [h6] | rw [h7] | skip);rintro e w' ⟨rfl,rfl⟩) | (go_at_call 68;refine(asB (meantP_any s lo po ln lc pn pc w0) h8).mono ?_;rintro e w1 ⟨rfl,hex⟩;have HE1:=Lib.hid hex;have hz1:=hex.size;clear hex d0 d1 d2 d3 d4 d5 d6 d7 d8 d9 d10 d11 d12;obtain⟨d0,d1,d2,d3,d4,d5,d6,d7,d8,d9,d10,d11,d12⟩:=HQ.out _ HE1.out) | (go_at_call 69;refine(containsUnsaid_any _ s.list w1 (HLI.out _ (HE0.out.trans HE1.out hz0 (by simp))) (by rw [←HLN.out];exact hm1)).mono ?_;rw [h9];rintro e w' ⟨rfl,rfl⟩) | fail)
  go_ret
  exact⟨by rw [HK.out];rfl,(HE0.out.trans HE1.out hz0 (by simp))⟩
 have l2d:decide (64 < pn)=false:=decide_eq_false l2
 by_cases l3:4096 < s.body.size
 case pos=>
  have p5:64 < s.list.length∨64 < s.pins.length∨4096 < s.body.size:=.inr (.inr l3)
  have l3d:decide (4096 < s.body.size)=true:=decide_eq_true l3
  have HK:Hid (checkI s=3):=by show _=_;rw [checkI,if_neg n1,if_neg n2,if_neg n3,if_neg n4,if_pos p5]
  go_enter Tryz.func40,Tryz.ntmps40
  go_upto_region 1 with(fail)
  rw [←HW0.out]
  obtain⟨d0,d1,d2,d3,d4,d5,d6,d7,d8,d9,d10,d11,d12⟩:=HQ.out _ (Ex.refl _ _ w0)
  go_wp2_with (first | (go_at_call 66;refine(listsIn_any _ _ _ _).mono ?_;(first | rw [h1] | rw [h2] | rw [h2b] | rw [h3] | rw [h4] | skip);rintro e w' ⟨rfl,rfl⟩) | (go_at_call 67;refine(valueAny_any _ _).mono ?_;(first | rw [h5] | rw [h6] | rw [h7] | skip);rintro e w' ⟨rfl,rfl⟩) | (go_at_call 68;refine(asB (meantP_any s lo po ln lc pn pc w0) h8).mono ?_;rintro e w1 ⟨rfl,hex⟩;have HE1:=Lib.hid hex;have hz1:=hex.size;clear hex d0 d1 d2 d3 d4 d5 d6 d7 d8 d9 d10 d11 d12;obtain⟨d0,d1,d2,d3,d4,d5,d6,d7,d8,d9,d10,d11,d12⟩:=HQ.out _ HE1.out) | (go_at_call 69;refine(containsUnsaid_any _ s.list w1 (HLI.out _ (HE0.out.trans HE1.out hz0 (by simp))) (by rw [←HLN.out];exact hm1)).mono ?_;rw [h9];rintro e w' ⟨rfl,rfl⟩) | fail)
  go_ret
  exact⟨by rw [HK.out];rfl,(HE0.out.trans HE1.out hz0 (by simp))⟩
 have l3d:decide (4096 < s.body.size)=false:=decide_eq_false l3
 have n5 : ¬(64 < s.list.length∨64 < s.pins.length∨4096 < s.body.size):=by rw [←HLN.out,←HPN.out];omega
 by_cases z:s.number=0
 · have zd: (s.number == 0)=true:=by simp [z]
   have zp:decide (0 < s.number)=false:=decide_eq_false (by omega)
   by_cases e:s.prev= ⟨#[]⟩
   case neg=>
    obtain⟨f1,f2,f3⟩:=nonemptyS_facts e
    have p6: (s.number=0∧s.prev≠⟨#[]⟩)∨(0 < s.number∧s.prev.size≠32)∨pinsB s.pins=false:=.inl ⟨z,e⟩
    have HK:Hid (checkI s=1):=by show _=_;rw [checkI,if_neg n1,if_neg n2,if_neg n3,if_neg n4,if_neg n5,if_pos p6]
    clear p6 z e
    go_enter Tryz.func40,Tryz.ntmps40
    go_upto_region 1 with(fail)
    rw [←HW0.out]
    obtain⟨d0,d1,d2,d3,d4,d5,d6,d7,d8,d9,d10,d11,d12⟩:=HQ.out _ (Ex.refl _ _ w0)
    go_wp2_with (first | (go_at_call 66;refine(listsIn_any _ _ _ _).mono ?_;(first | rw [h1] | rw [h2] | rw [h2b] | rw [h3] | rw [h4] | skip);rintro e w' ⟨rfl,rfl⟩) | (go_at_call 67;refine(valueAny_any _ _).mono ?_;(first | rw [h5] | rw [h6] | rw [h7] | skip);rintro e w' ⟨rfl,rfl⟩) | (go_at_call 68;refine(asB (meantP_any s lo po ln lc pn pc w0) h8).mono ?_;rintro e w1 ⟨rfl,hex⟩;have HE1:=Lib.hid hex;have hz1:=hex.size;clear hex d0 d1 d2 d3 d4 d5 d6 d7 d8 d9 d10 d11 d12;obtain⟨d0,d1,d2,d3,d4,d5,d6,d7,d8,d9,d10,d11,d12⟩:=HQ.out _ HE1.out) | (go_at_call 69;refine(containsUnsaid_any _ s.list w1 (HLI.out _ (HE0.out.trans HE1.out hz0 (by simp))) (by rw [←HLN.out];exact hm1)).mono ?_;rw [h9];rintro e w' ⟨rfl,rfl⟩) | fail)
    go_ret
    exact⟨by rw [HK.out];rfl,(HE0.out.trans HE1.out hz0 (by simp))⟩
   obtain⟨f1,f2,f3⟩:=emptyS_facts e
   have f4:s.prev.toList=[]:=by rw [e];exact emptyS_list
   cases h10:pinsB s.pins
   case false=>
    have p6: (s.number=0∧s.prev≠⟨#[]⟩)∨(0 < s.number∧s.prev.size≠32)∨pinsB s.pins=false:=.inr (.inr h10)
    have HK:Hid (checkI s=1):=by show _=_;rw [checkI,if_neg n1,if_neg n2,if_neg n3,if_neg n4,if_neg n5,if_pos p6]
    clear p6 z e
    go_enter Tryz.func40,Tryz.ntmps40
    go_upto_region 1 with(fail)
    rw [←HW0.out]
    obtain⟨d0,d1,d2,d3,d4,d5,d6,d7,d8,d9,d10,d11,d12⟩:=HQ.out _ (Ex.refl _ _ w0)
    go_wp2_with (first | (go_at_call 66;refine(listsIn_any _ _ _ _).mono ?_;(first | rw [h1] | rw [h2] | rw [h2b] | rw [h3] | rw [h4] | skip);rintro e w' ⟨rfl,rfl⟩) | (go_at_call 67;refine(valueAny_any _ _).mono ?_;(first | rw [h5] | rw [h6] | rw [h7] | skip);rintro e w' ⟨rfl,rfl⟩) | (go_at_call 68;refine(asB (meantP_any s lo po ln lc pn pc w0) h8).mono ?_;rintro e w1 ⟨rfl,hex⟩;have HE1:=Lib.hid hex;have hz1:=hex.size;clear hex d0 d1 d2 d3 d4 d5 d6 d7 d8 d9 d10 d11 d12;obtain⟨d0,d1,d2,d3,d4,d5,d6,d7,d8,d9,d10,d11,d12⟩:=HQ.out _ HE1.out) | (go_at_call 69;refine(containsUnsaid_any _ s.list w1 (HLI.out _ (HE0.out.trans HE1.out hz0 (by simp))) (by rw [←HLN.out];exact hm1)).mono ?_;rw [h9];rintro e w' ⟨rfl,rfl⟩) | (go_at_call 71;refine(asB (pinned_any _ s.pins w1 (HPI.out _ (HE0.out.trans HE1.out hz0 (by simp))) (by rw [←HPN.out];exact hm2)) h10).mono ?_;rintro e w2 ⟨rfl,hex⟩;have HE2:=Lib.hid hex;clear hex d0 d1 d2 d3 d4 d5 d6 d7 d8 d9 d10 d11 d12;obtain⟨d0,d1,d2,d3,d4,d5,d6,d7,d8,d9,d10,d11,d12⟩:=HQ.out _ (HE1.out.trans HE2.out hz1 (by simp))) | fail)
    go_ret
    exact⟨by rw [HK.out];rfl,((HE0.out.trans HE1.out hz0 (by simp)).trans HE2.out (by omega) (by simp))⟩
   have n6 : ¬((s.number=0∧s.prev≠⟨#[]⟩)∨(0 < s.number∧s.prev.size≠32)∨pinsB s.pins=false):=by
    rintro(⟨x1,x2⟩ | ⟨x1,x2⟩ | x3)
    · exact x2 e
    · omega
    · rw [h10] at x3;cases x3
   have n7 : ¬(s.kind≤3∧(0 < s.list.length∨0 < s.pins.length∨s.body≠⟨#[]⟩)):=by omega
   have HK:Hid (checkI s=0):=by show _=_;rw [checkI,if_neg n1,if_neg n2,if_neg n3,if_neg n4,if_neg n5,if_neg n6,if_neg n7]
   clear n6 n7 z e
   go_enter Tryz.func40,Tryz.ntmps40
   go_upto_region 1 with(fail)
   rw [←HW0.out]
   obtain⟨d0,d1,d2,d3,d4,d5,d6,d7,d8,d9,d10,d11,d12⟩:=HQ.out _ (Ex.refl _ _ w0)
   go_wp2_with (first | (go_at_call 66;refine(listsIn_any _ _ _ _).mono ?_;(first | rw [h1] | rw [h2] | rw [h2b] | rw [h3] | rw [h4] | skip);rintro e w' ⟨rfl,rfl⟩) | (go_at_call 67;refine(valueAny_any _ _).mono ?_;(first | rw [h5] | rw [h6] | rw [h7] | skip);rintro e w' ⟨rfl,rfl⟩) | (go_at_call 68;refine(asB (meantP_any s lo po ln lc pn pc w0) h8).mono ?_;rintro e w1 ⟨rfl,hex⟩;have HE1:=Lib.hid hex;have hz1:=hex.size;clear hex d0 d1 d2 d3 d4 d5 d6 d7 d8 d9 d10 d11 d12;obtain⟨d0,d1,d2,d3,d4,d5,d6,d7,d8,d9,d10,d11,d12⟩:=HQ.out _ HE1.out) | (go_at_call 69;refine(containsUnsaid_any _ s.list w1 (HLI.out _ (HE0.out.trans HE1.out hz0 (by simp))) (by rw [←HLN.out];exact hm1)).mono ?_;rw [h9];rintro e w' ⟨rfl,rfl⟩) | (go_at_call 71;refine(asB (pinned_any _ s.pins w1 (HPI.out _ (HE0.out.trans HE1.out hz0 (by simp))) (by rw [←HPN.out];exact hm2)) h10).mono ?_;rintro e w2 ⟨rfl,hex⟩;have HE2:=Lib.hid hex;clear hex d0 d1 d2 d3 d4 d5 d6 d7 d8 d9 d10 d11 d12;obtain⟨d0,d1,d2,d3,d4,d5,d6,d7,d8,d9,d10,d11,d12⟩:=HQ.out _ (HE1.out.trans HE2.out hz1 (by simp))) | fail)
   go_ret
   exact⟨by rw [HK.out];rfl,((HE0.out.trans HE1.out hz0 (by simp)).trans HE2.out (by omega) (by simp))⟩
 · have zd: (s.number == 0)=false:=by simpa using z
   have zp:decide (0 < s.number)=true:=decide_eq_true (by omega)
   by_cases e:s.prev.size=32
   case neg=>
    have ed: ((s.prev.size:Int) != 32)=true:=by simp;omega
    have p6: (s.number=0∧s.prev≠⟨#[]⟩)∨(0 < s.number∧s.prev.size≠32)∨pinsB s.pins=false:=.inr (.inl ⟨by omega,e⟩)
    have HK:Hid (checkI s=1):=by show _=_;rw [checkI,if_neg n1,if_neg n2,if_neg n3,if_neg n4,if_neg n5,if_pos p6]
    clear p6 z e
    go_enter Tryz.func40,Tryz.ntmps40
    go_upto_region 1 with(fail)
    rw [←HW0.out]
    obtain⟨d0,d1,d2,d3,d4,d5,d6,d7,d8,d9,d10,d11,d12⟩:=HQ.out _ (Ex.refl _ _ w0)
    go_wp2_with (first | (go_at_call 66;refine(listsIn_any _ _ _ _).mono ?_;(first | rw [h1] | rw [h2] | rw [h2b] | rw [h3] | rw [h4] | skip);rintro e w' ⟨rfl,rfl⟩) | (go_at_call 67;refine(valueAny_any _ _).mono ?_;(first | rw [h5] | rw [h6] | rw [h7] | skip);rintro e w' ⟨rfl,rfl⟩) | (go_at_call 68;refine(asB (meantP_any s lo po ln lc pn pc w0) h8).mono ?_;rintro e w1 ⟨rfl,hex⟩;have HE1:=Lib.hid hex;have hz1:=hex.size;clear hex d0 d1 d2 d3 d4 d5 d6 d7 d8 d9 d10 d11 d12;obtain⟨d0,d1,d2,d3,d4,d5,d6,d7,d8,d9,d10,d11,d12⟩:=HQ.out _ HE1.out) | (go_at_call 69;refine(containsUnsaid_any _ s.list w1 (HLI.out _ (HE0.out.trans HE1.out hz0 (by simp))) (by rw [←HLN.out];exact hm1)).mono ?_;rw [h9];rintro e w' ⟨rfl,rfl⟩) | fail)
    go_ret
    exact⟨by rw [HK.out];rfl,(HE0.out.trans HE1.out hz0 (by simp))⟩
   have ed: ((s.prev.size:Int) != 32)=false:=by simp [e]
   cases h10:pinsB s.pins
   case false=>
    have p6: (s.number=0∧s.prev≠⟨#[]⟩)∨(0 < s.number∧s.prev.size≠32)∨pinsB s.pins=false:=.inr (.inr h10)
    have HK:Hid (checkI s=1):=by show _=_;rw [checkI,if_neg n1,if_neg n2,if_neg n3,if_neg n4,if_neg n5,if_pos p6]
    clear p6 z e
    go_enter Tryz.func40,Tryz.ntmps40
    go_upto_region 1 with(fail)
    rw [←HW0.out]
    obtain⟨d0,d1,d2,d3,d4,d5,d6,d7,d8,d9,d10,d11,d12⟩:=HQ.out _ (Ex.refl _ _ w0)
    go_wp2_with (first | (go_at_call 66;refine(listsIn_any _ _ _ _).mono ?_;(first | rw [h1] | rw [h2] | rw [h2b] | rw [h3] | rw [h4] | skip);rintro e w' ⟨rfl,rfl⟩) | (go_at_call 67;refine(valueAny_any _ _).mono ?_;(first | rw [h5] | rw [h6] | rw [h7] | skip);rintro e w' ⟨rfl,rfl⟩) | (go_at_call 68;refine(asB (meantP_any s lo po ln lc pn pc w0) h8).mono ?_;rintro e w1 ⟨rfl,hex⟩;have HE1:=Lib.hid hex;have hz1:=hex.size;clear hex d0 d1 d2 d3 d4 d5 d6 d7 d8 d9 d10 d11 d12;obtain⟨d0,d1,d2,d3,d4,d5,d6,d7,d8,d9,d10,d11,d12⟩:=HQ.out _ HE1.out) | (go_at_call 69;refine(containsUnsaid_any _ s.list w1 (HLI.out _ (HE0.out.trans HE1.out hz0 (by simp))) (by rw [←HLN.out];exact hm1)).mono ?_;rw [h9];rintro e w' ⟨rfl,rfl⟩) | (go_at_call 71;refine(asB (pinned_any _ s.pins w1 (HPI.out _ (HE0.out.trans HE1.out hz0 (by simp))) (by rw [←HPN.out];exact hm2)) h10).mono ?_;rintro e w2 ⟨rfl,hex⟩;have HE2:=Lib.hid hex;clear hex d0 d1 d2 d3 d4 d5 d6 d7 d8 d9 d10 d11 d12;obtain⟨d0,d1,d2,d3,d4,d5,d6,d7,d8,d9,d10,d11,d12⟩:=HQ.out _ (HE1.out.trans HE2.out hz1 (by simp))) | fail)
    go_ret
    exact⟨by rw [HK.out];rfl,((HE0.out.trans HE1.out hz0 (by simp)).trans HE2.out (by omega) (by simp))⟩
   have n6 : ¬((s.number=0∧s.prev≠⟨#[]⟩)∨(0 < s.number∧s.prev.size≠32)∨pinsB s.pins=false):=by
    rintro(⟨x1,x2⟩ | ⟨x1,x2⟩ | x3)
    · exact z x1
    · exact x2 e
    · rw [h10] at x3;cases x3
   have n7 : ¬(s.kind≤3∧(0 < s.list.length∨0 < s.pins.length∨s.body≠⟨#[]⟩)):=by omega
   have HK:Hid (checkI s=0):=by show _=_;rw [checkI,if_neg n1,if_neg n2,if_neg n3,if_neg n4,if_neg n5,if_neg n6,if_neg n7]
   clear n6 n7 z e
   go_enter Tryz.func40,Tryz.ntmps40
   go_upto_region 1 with(fail)
   rw [←HW0.out]
   obtain⟨d0,d1,d2,d3,d4,d5,d6,d7,d8,d9,d10,d11,d12⟩:=HQ.out _ (Ex.refl _ _ w0)
   go_wp2_with (first | (go_at_call 66;refine(listsIn_any _ _ _ _).mono ?_;(first | rw [h1] | rw [h2] | rw [h2b] | rw [h3] | rw [h4] | skip);rintro e w' ⟨rfl,rfl⟩) | (go_at_call 67;refine(valueAny_any _ _).mono ?_;(first | rw [h5] | rw [h6] | rw [h7] | skip);rintro e w' ⟨rfl,rfl⟩) | (go_at_call 68;refine(asB (meantP_any s lo po ln lc pn pc w0) h8).mono ?_;rintro e w1 ⟨rfl,hex⟩;have HE1:=Lib.hid hex;have hz1:=hex.size;clear hex d0 d1 d2 d3 d4 d5 d6 d7 d8 d9 d10 d11 d12;obtain⟨d0,d1,d2,d3,d4,d5,d6,d7,d8,d9,d10,d11,d12⟩:=HQ.out _ HE1.out) | (go_at_call 69;refine(containsUnsaid_any _ s.list w1 (HLI.out _ (HE0.out.trans HE1.out hz0 (by simp))) (by rw [←HLN.out];exact hm1)).mono ?_;rw [h9];rintro e w' ⟨rfl,rfl⟩) | (go_at_call 71;refine(asB (pinned_any _ s.pins w1 (HPI.out _ (HE0.out.trans HE1.out hz0 (by simp))) (by rw [←HPN.out];exact hm2)) h10).mono ?_;rintro e w2 ⟨rfl,hex⟩;have HE2:=Lib.hid hex;clear hex d0 d1 d2 d3 d4 d5 d6 d7 d8 d9 d10 d11 d12;obtain⟨d0,d1,d2,d3,d4,d5,d6,d7,d8,d9,d10,d11,d12⟩:=HQ.out _ (HE1.out.trans HE2.out hz1 (by simp))) | fail)
   go_ret
   exact⟨by rw [HK.out];rfl,((HE0.out.trans HE1.out hz0 (by simp)).trans HE2.out (by omega) (by simp))⟩
set_option maxHeartbeats 16000000 in
set_option maxRecDepth 100000 in
theorem checkP_any {P:Nat→Prop} (s:St) (lo po:Option Addr) (ln lc pn pc:Nat) (w:World) (hs:Lies P w (s,⟨lo,ln,lc⟩,⟨po,pn,pc⟩)) (hm:ln≤9223372036854775807∧pn≤9223372036854775807) :
 Calls Tryz.prog 40 #[.agg #[.int .i64 s.author,.int .i64 s.number,.string s.prev,.int .i64 s.time,.int .i64 s.kind,.int .i64 s.a,.int .i64 s.b,.int .i64 s.c,.slice lo ln lc,.slice po pn pc,.string s.body,.int .i64 s.key,.string s.dig]] w fun e w'=>e=.returned (.int .i64 (checkI s))∧Ex w.heap.size none w w':=by
 have HLN:Hid (ln=s.list.length):=by obtain⟨⟨_,_,e,_⟩,_⟩:=hs;simp only [Sv.v] at e;cases e;exact rfl
 have HPN:Hid (pn=s.pins.length):=by obtain⟨_,⟨_,_,e,_⟩⟩:=hs;simp only [Sv.v] at e;cases e;exact rfl
 have HS:=Lib.hid hs
 obtain⟨hm1,hm2⟩:=hm
 obtain⟨w0,hw0⟩:∃w0:World,w0=w.alloc (.cells #[.int .i64 s.author,.int .i64 s.number,.string s.prev,.int .i64 s.time,.int .i64 s.kind,.int .i64 s.a,.int .i64 s.b,.int .i64 s.c,.slice lo ln lc,.slice po pn pc,.string s.body,.int .i64 s.key,.string s.dig] 51):=⟨_,rfl⟩
 have HE0:Hid (Ex w.heap.size none w w0):=Lib.hid (by rw [hw0];exact Ex.new w _)
 have hz0:w.heap.size≤w0.heap.size:=by rw [hw0];simp
 have HQ:=Lib.hid (stBox_cells s lo po ln lc pn pc w w0 hw0)
 have HW0:=Lib.hid hw0
 have HLI:Hid (∀w',Ex w.heap.size none w w'→Ints w' (.slice lo ln lc) s.list):=Lib.hid (fun w' h=>(sl_ints hs.1).keep h (Nat.le_refl _))
 have HPI:Hid (∀w',Ex w.heap.size none w w'→Sl pinRep P w' (.slice po pn pc) s.pins):=Lib.hid (fun w' h=>hs.2.keep (by decide) (fun b _ hb=>h.block b hb (by simp)))
 clear hs hw0
 by_cases a1:0≤s.author∧s.author≤63
 case neg=>
  have h1: (decide (0≤s.author) && decide (s.author≤63))=false:=by simp;omega
  have p1:keyB s.author=false:=by simp [keyB];omega
  have HK:Hid (checkI s=4):=by show _=_;rw [checkI,if_pos p1]
  go_enter Tryz.func40,Tryz.ntmps40
  go_upto_region 1 with(fail)
  rw [←HW0.out]
  obtain⟨d0,d1,d2,d3,d4,d5,d6,d7,d8,d9,d10,d11,d12⟩:=HQ.out _ (Ex.refl _ _ w0)
  go_wp2_with (first | (go_at_call 66;refine(listsIn_any _ _ _ _).mono ?_;(first | rw [h1] | rw [h2] | rw [h2b] | rw [h3] | rw [h4] | skip);rintro e w' ⟨rfl,rfl⟩) | (go_at_call 67;refine(valueAny_any _ _).mono ?_;(first | rw [h5] | rw [h6] | rw [h7] | skip);rintro e w' ⟨rfl,rfl⟩) | fail)
  go_ret
  exact⟨by rw [HK.out];rfl,HE0.out⟩
 by_cases a2:1≤s.kind∧s.kind≤3
 · exact checkPlain_any s lo po ln lc pn pc w HS.out ⟨hm1,hm2⟩ a1 a2
 by_cases a3:10≤s.kind∧s.kind≤31
 · exact checkOther_any s lo po ln lc pn pc w HS.out ⟨hm1,hm2⟩ a1 a3
 have h1: (decide (0≤s.author) && decide (s.author≤63))=true:=by simp [a1]
 have n1 : ¬keyB s.author=false:=by simp [keyB];omega
 have h2: (decide (1≤s.kind) && decide (s.kind≤3))=false:=by simp;omega
 have h2b: (decide (10≤s.kind) && decide (s.kind≤31))=false:=by simp;omega
 have p2:s.kind < 1∨(3 < s.kind∧s.kind < 10)∨31 < s.kind:=by omega
 have HK:Hid (checkI s=5):=by show _=_;rw [checkI,if_neg n1,if_pos p2]
 go_enter Tryz.func40,Tryz.ntmps40
 go_upto_region 1 with(fail)
 rw [←HW0.out]
 obtain⟨d0,d1,d2,d3,d4,d5,d6,d7,d8,d9,d10,d11,d12⟩:=HQ.out _ (Ex.refl _ _ w0)
 go_wp2_with (first | (go_at_call 66;refine(listsIn_any _ _ _ _).mono ?_;(first | rw [h1] | rw [h2] | rw [h2b] | rw [h3] | rw [h4] | skip);rintro e w' ⟨rfl,rfl⟩) | (go_at_call 67;refine(valueAny_any _ _).mono ?_;(first | rw [h5] | rw [h6] | rw [h7] | skip);rintro e w' ⟨rfl,rfl⟩) | fail)
 go_ret
 exact⟨by rw [HK.out];rfl,HE0.out⟩
end Go.Proofs.YtflhidfclfkjlaaGreat

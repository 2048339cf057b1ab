/- ref03.Check: a contract, no statement of the seat. -/
import Derived.Test.YtflhidfclfkjlaaGreatNumbers03G
import Derived.Test.YtflhidfclfkjlaaGreatMg06
import Derived.Deep.Cut
import Derived.Test.YtflhidfclfkjlaaGreatMg00
namespace Go.Proofs.YtflhidfclfkjlaaGreat
open Go.RowKit Go.Sort
theorem empty_list: (⟨#[]⟩:ByteArray).toList=[]:=by rw [ByteArray.toList_eq]
theorem empty_facts {a:ByteArray} (h:a= ⟨#[]⟩): (a.toList == (⟨#[]⟩:ByteArray).toList)=true∧(a.toList == [])=true∧a.toList.isEmpty=true:=by
 subst h
 rw [empty_list];exact⟨rfl,rfl,rfl⟩
theorem nonempty_facts {a:ByteArray} (h : ¬a= ⟨#[]⟩): (a.toList == (⟨#[]⟩:ByteArray).toList)=false∧(a.toList == [])=false∧a.toList.isEmpty=false:=by
 have h1:=(bytes_nbeq h).2
 have h2: (a.toList == [])=false:=by rwa [empty_list] at h1
 refine⟨h1,h2,?_⟩
 cases hl:a.toList with
 | nil=>rw [hl] at h2;cases h2
 | cons x r=>rfl
def checkB (s:St):Int :=
 bif !keyB s.author then 4 else
 bif decide (s.kind < 1) || (decide (3 < s.kind) && decide (s.kind < 10)) || decide (31 < s.kind) then 5 else
 bif !inB s.time 2147483648 then 9 else
 bif !numB s then 2 else
 bif decide (64 < s.list.length) || decide (64 < s.pins.length) || decide (4096 < s.body.size) then 3 else
 bif (decide (s.number=0) && !decide (s.prev= ⟨#[]⟩)) || (decide (0 < s.number) && !decide (s.prev.size=32)) || !pinsB s.pins then 1 else
 bif decide (s.kind≤3) && (decide (0 < s.list.length) || decide (0 < s.pins.length) || !decide (s.body= ⟨#[]⟩)) then 1 else 0
theorem checkB_eq (s:St):checkI s=checkB s:=by
 simp only [checkI,checkB,cond_eq_ite,Bool.or_eq_true,Bool.and_eq_true,decide_eq_true_eq,Bool.not_eq_true',decide_eq_false_iff_not,ne_eq,or_assoc]
set_option maxHeartbeats 16000000 in
set_option maxRecDepth 100000 in
theorem check03_any {P:Nat→Prop} (s:St) (lo po:Option Addr) (ln lc pn pc:Nat) (w:World) (hs:Lies P w (s,⟨lo,ln,lc⟩,⟨po,pn,pc⟩)) (hm:s.list.length≤9223372036854775807∧s.pins.length≤9223372036854775807) :
 Calls Tryz.prog 45 #[.agg #[.int .i64 s.author,.int .i64 s.number,.string s.prev,.int .i64 s.time,.int .i64 s.kind,.int .i64 s.a,.int .i64 s.b,.int .i64 s.c,.slice lo ln lc,.slice po pn pc,.string s.body,.int .i64 s.key,.string s.dig]] w fun e w'=>e=.returned (.int .i64 (checkI s))∧Ex w.heap.size none w w':=by
 have HLN:Hid (ln=s.list.length):=by obtain⟨⟨_,_,e,_⟩,_⟩:=hs;simp only [Sv.v] at e;cases e;exact rfl
 have HPN:Hid (pn=s.pins.length):=by obtain⟨_,⟨_,_,e,_⟩⟩:=hs;simp only [Sv.v] at e;cases e;exact rfl
 have HNB:Hid (∀o,Calls Tryz.prog 77 #[.agg #[.int .i64 s.author,.int .i64 s.number,.string s.prev,.int .i64 s.time,.int .i64 s.kind,.int .i64 s.a,.int .i64 s.b,.int .i64 s.c,.slice lo ln lc,.slice po pn pc,.string s.body,.int .i64 s.key,.string s.dig]] (w.alloc o) fun e w'=>e=.returned (.bool (numB s))∧Ex (w.alloc o).heap.size none (w.alloc o) w'):=fun o=>numbers_any s lo po ln lc pn pc _ ((sl_ints hs.1).keep (Ex.new _ _) (Nat.le_refl _)) hm.1
 have HPB:Hid (∀w1 {o},Ex (w.alloc o).heap.size none (w.alloc o) w1→Calls Tryz.prog 78 #[.slice po pn pc] w1 fun e w'=>e=.returned (.bool (pinsB s.pins))∧Ex w1.heap.size none w1 w'):=fun w1 o h1=>pinsOK_any _ _ w1 (hs.2.keep (by decide) (fun b _ hb=>(h1.block b (by simp;omega) (by simp)).trans ((Ex.new w o).block b hb (by simp)))) hm.2
 clear hs hm
 go_enter Tryz.func45,Tryz.ntmps45
 go_upto_region 1 with(first
  | (go_at_call 75;refine(key03_any _ _).mono ?_;rintro e w' ⟨rfl,rfl⟩)
  | (go_at_call 76;refine(in03_any _ _ _).mono ?_;rintro e w' ⟨rfl,rfl⟩)
  | (go_at_call 77;refine(HNB.out _).mono ?_;rintro e w1 ⟨rfl,hex1⟩;have HE1:=Lib.hid hex1;have hz1:=hex1.size;simp at hz1;have hy1:w.heap.size < w1.heap.size:=(by omega);have hb1:=(hex1.block w.heap.size (by simp) (by simp)).trans (heap_alloc_new w _);obtain⟨⟨d0,d1,d2,d3,d4,d5,d6,d7,d8,d9,d10,d11,d12⟩,fz⟩:=st_block hb1;clear hex1 hb1 hz1)
  | (go_at_call 78;refine(HPB.out w1 (HE1.out)).mono ?_;rintro e w2 ⟨rfl,hex2⟩;have HE2:=Lib.hid hex2;have hb2:=(hex2.block w.heap.size hy1 (by simp)).trans ((HE1.out.block w.heap.size (by simp) (by simp)).trans (heap_alloc_new w _));clear d0 d1 d2 d3 d4 d5 d6 d7 d8 d9 d10 d11 d12 fz;obtain⟨⟨d0,d1,d2,d3,d4,d5,d6,d7,d8,d9,d10,d11,d12⟩,fz⟩:=st_block hb2;clear hex2 hb2))
 cases h1:keyB s.author with
 | false=>
   have HK:Hid (checkI s=4):=Lib.hid (by rw [checkB_eq];(simp only [checkB,h1]) <;> rfl)
   go_wp2_with (first
    | (go_at_call 75;refine(key03_any _ _).mono ?_;rintro e w' ⟨rfl,rfl⟩)
    | (go_at_call 76;refine(in03_any _ _ _).mono ?_;rintro e w' ⟨rfl,rfl⟩)
    | (go_at_call 77;refine(HNB.out _).mono ?_;rintro e w1 ⟨rfl,hex1⟩;have HE1:=Lib.hid hex1;have hz1:=hex1.size;simp at hz1;have hy1:w.heap.size < w1.heap.size:=(by omega);have hb1:=(hex1.block w.heap.size (by simp) (by simp)).trans (heap_alloc_new w _);obtain⟨⟨d0,d1,d2,d3,d4,d5,d6,d7,d8,d9,d10,d11,d12⟩,fz⟩:=st_block hb1;clear hex1 hb1 hz1)
    | (go_at_call 78;refine(HPB.out w1 (HE1.out)).mono ?_;rintro e w2 ⟨rfl,hex2⟩;have HE2:=Lib.hid hex2;have hb2:=(hex2.block w.heap.size hy1 (by simp)).trans ((HE1.out.block w.heap.size (by simp) (by simp)).trans (heap_alloc_new w _));clear d0 d1 d2 d3 d4 d5 d6 d7 d8 d9 d10 d11 d12 fz;obtain⟨⟨d0,d1,d2,d3,d4,d5,d6,d7,d8,d9,d10,d11,d12⟩,fz⟩:=st_block hb2;clear hex2 hb2))
   go_ret
   exact⟨by rw [HK.out];rfl,Ex.new _ _⟩
 | true=>
   go_upto_region 3 with(first
    | (go_at_call 75;refine(key03_any _ _).mono ?_;rintro e w' ⟨rfl,rfl⟩)
    | (go_at_call 76;refine(in03_any _ _ _).mono ?_;rintro e w' ⟨rfl,rfl⟩)
    | (go_at_call 77;refine(HNB.out _).mono ?_;rintro e w1 ⟨rfl,hex1⟩;have HE1:=Lib.hid hex1;have hz1:=hex1.size;simp at hz1;have hy1:w.heap.size < w1.heap.size:=(by omega);have hb1:=(hex1.block w.heap.size (by simp) (by simp)).trans (heap_alloc_new w _);obtain⟨⟨d0,d1,d2,d3,d4,d5,d6,d7,d8,d9,d10,d11,d12⟩,fz⟩:=st_block hb1;clear hex1 hb1 hz1)
    | (go_at_call 78;refine(HPB.out w1 (HE1.out)).mono ?_;rintro e w2 ⟨rfl,hex2⟩;have HE2:=Lib.hid hex2;have hb2:=(hex2.block w.heap.size hy1 (by simp)).trans ((HE1.out.block w.heap.size (by simp) (by simp)).trans (heap_alloc_new w _));clear d0 d1 d2 d3 d4 d5 d6 d7 d8 d9 d10 d11 d12 fz;obtain⟨⟨d0,d1,d2,d3,d4,d5,d6,d7,d8,d9,d10,d11,d12⟩,fz⟩:=st_block hb2;clear hex2 hb2))
   by_cases e1:s.kind < 1
   · have e1d:decide (s.kind < 1)=true:=decide_eq_true e1
     have Ke1:Hid (decide (s.kind < 1)=true):=Lib.hid (by exact e1d)
     have HK:Hid (checkI s=5):=Lib.hid (by rw [checkB_eq];(simp only [checkB,h1,Ke1.out]) <;> rfl)
     go_wp2_with (first
      | (go_at_call 75;refine(key03_any _ _).mono ?_;rintro e w' ⟨rfl,rfl⟩)
      | (go_at_call 76;refine(in03_any _ _ _).mono ?_;rintro e w' ⟨rfl,rfl⟩)
      | (go_at_call 77;refine(HNB.out _).mono ?_;rintro e w1 ⟨rfl,hex1⟩;have HE1:=Lib.hid hex1;have hz1:=hex1.size;simp at hz1;have hy1:w.heap.size < w1.heap.size:=(by omega);have hb1:=(hex1.block w.heap.size (by simp) (by simp)).trans (heap_alloc_new w _);obtain⟨⟨d0,d1,d2,d3,d4,d5,d6,d7,d8,d9,d10,d11,d12⟩,fz⟩:=st_block hb1;clear hex1 hb1 hz1)
      | (go_at_call 78;refine(HPB.out w1 (HE1.out)).mono ?_;rintro e w2 ⟨rfl,hex2⟩;have HE2:=Lib.hid hex2;have hb2:=(hex2.block w.heap.size hy1 (by simp)).trans ((HE1.out.block w.heap.size (by simp) (by simp)).trans (heap_alloc_new w _));clear d0 d1 d2 d3 d4 d5 d6 d7 d8 d9 d10 d11 d12 fz;obtain⟨⟨d0,d1,d2,d3,d4,d5,d6,d7,d8,d9,d10,d11,d12⟩,fz⟩:=st_block hb2;clear hex2 hb2))
     go_ret
     exact⟨by rw [HK.out];rfl,Ex.new _ _⟩
   · have e1d:decide (s.kind < 1)=false:=decide_eq_false e1
     have Ke1:Hid (decide (s.kind < 1)=false):=Lib.hid (by exact e1d)
     by_cases e3:3 < s.kind
     · have e3d:decide (3 < s.kind)=true:=decide_eq_true e3
       have Ke3:=Lib.hid e3d
       by_cases e4:s.kind < 10
       · have e4d:decide (s.kind < 10)=true:=decide_eq_true e4
         have Ke4:=Lib.hid e4d
         have HK:Hid (checkI s=5):=Lib.hid (by rw [checkB_eq];(simp only [checkB,h1,Ke1.out,Ke3.out,Ke4.out]) <;> rfl)
         go_wp2_with (first
          | (go_at_call 75;refine(key03_any _ _).mono ?_;rintro e w' ⟨rfl,rfl⟩)
          | (go_at_call 76;refine(in03_any _ _ _).mono ?_;rintro e w' ⟨rfl,rfl⟩)
          | (go_at_call 77;refine(HNB.out _).mono ?_;rintro e w1 ⟨rfl,hex1⟩;have HE1:=Lib.hid hex1;have hz1:=hex1.size;simp at hz1;have hy1:w.heap.size < w1.heap.size:=(by omega);have hb1:=(hex1.block w.heap.size (by simp) (by simp)).trans (heap_alloc_new w _);obtain⟨⟨d0,d1,d2,d3,d4,d5,d6,d7,d8,d9,d10,d11,d12⟩,fz⟩:=st_block hb1;clear hex1 hb1 hz1)
          | (go_at_call 78;refine(HPB.out w1 (HE1.out)).mono ?_;rintro e w2 ⟨rfl,hex2⟩;have HE2:=Lib.hid hex2;have hb2:=(hex2.block w.heap.size hy1 (by simp)).trans ((HE1.out.block w.heap.size (by simp) (by simp)).trans (heap_alloc_new w _));clear d0 d1 d2 d3 d4 d5 d6 d7 d8 d9 d10 d11 d12 fz;obtain⟨⟨d0,d1,d2,d3,d4,d5,d6,d7,d8,d9,d10,d11,d12⟩,fz⟩:=st_block hb2;clear hex2 hb2))
         go_ret
         exact⟨by rw [HK.out];rfl,Ex.new _ _⟩
       · have e4d:decide (s.kind < 10)=false:=decide_eq_false e4
         have Ke4:=Lib.hid e4d
         by_cases e5:31 < s.kind
         · have e5d:decide (31 < s.kind)=true:=decide_eq_true e5
           have Ke5:Hid (decide (31 < s.kind)=true):=Lib.hid (by exact e5d)
           have HK:Hid (checkI s=5):=Lib.hid (by rw [checkB_eq];(simp only [checkB,h1,Ke1.out,Ke3.out,Ke4.out,Ke5.out]) <;> rfl)
           go_wp2_with (first
            | (go_at_call 75;refine(key03_any _ _).mono ?_;rintro e w' ⟨rfl,rfl⟩)
            | (go_at_call 76;refine(in03_any _ _ _).mono ?_;rintro e w' ⟨rfl,rfl⟩)
            | (go_at_call 77;refine(HNB.out _).mono ?_;rintro e w1 ⟨rfl,hex1⟩;have HE1:=Lib.hid hex1;have hz1:=hex1.size;simp at hz1;have hy1:w.heap.size < w1.heap.size:=(by omega);have hb1:=(hex1.block w.heap.size (by simp) (by simp)).trans (heap_alloc_new w _);obtain⟨⟨d0,d1,d2,d3,d4,d5,d6,d7,d8,d9,d10,d11,d12⟩,fz⟩:=st_block hb1;clear hex1 hb1 hz1)
            | (go_at_call 78;refine(HPB.out w1 (HE1.out)).mono ?_;rintro e w2 ⟨rfl,hex2⟩;have HE2:=Lib.hid hex2;have hb2:=(hex2.block w.heap.size hy1 (by simp)).trans ((HE1.out.block w.heap.size (by simp) (by simp)).trans (heap_alloc_new w _));clear d0 d1 d2 d3 d4 d5 d6 d7 d8 d9 d10 d11 d12 fz;obtain⟨⟨d0,d1,d2,d3,d4,d5,d6,d7,d8,d9,d10,d11,d12⟩,fz⟩:=st_block hb2;clear hex2 hb2))
           go_ret
           exact⟨by rw [HK.out];rfl,Ex.new _ _⟩
         · have e5d:decide (31 < s.kind)=false:=decide_eq_false e5
           have Ke5:Hid (decide (31 < s.kind)=false):=Lib.hid (by exact e5d)
           go_upto_region 5 with(first
            | (go_at_call 75;refine(key03_any _ _).mono ?_;rintro e w' ⟨rfl,rfl⟩)
            | (go_at_call 76;refine(in03_any _ _ _).mono ?_;rintro e w' ⟨rfl,rfl⟩)
            | (go_at_call 77;refine(HNB.out _).mono ?_;rintro e w1 ⟨rfl,hex1⟩;have HE1:=Lib.hid hex1;have hz1:=hex1.size;simp at hz1;have hy1:w.heap.size < w1.heap.size:=(by omega);have hb1:=(hex1.block w.heap.size (by simp) (by simp)).trans (heap_alloc_new w _);obtain⟨⟨d0,d1,d2,d3,d4,d5,d6,d7,d8,d9,d10,d11,d12⟩,fz⟩:=st_block hb1;clear hex1 hb1 hz1)
            | (go_at_call 78;refine(HPB.out w1 (HE1.out)).mono ?_;rintro e w2 ⟨rfl,hex2⟩;have HE2:=Lib.hid hex2;have hb2:=(hex2.block w.heap.size hy1 (by simp)).trans ((HE1.out.block w.heap.size (by simp) (by simp)).trans (heap_alloc_new w _));clear d0 d1 d2 d3 d4 d5 d6 d7 d8 d9 d10 d11 d12 fz;obtain⟨⟨d0,d1,d2,d3,d4,d5,d6,d7,d8,d9,d10,d11,d12⟩,fz⟩:=st_block hb2;clear hex2 hb2))
           cases h3:inB s.time 2147483648 with
           | false=>
             have HK:Hid (checkI s=9):=Lib.hid (by rw [checkB_eq];(simp only [checkB,h1,Ke1.out,Ke3.out,Ke4.out,Ke5.out,h3]) <;> rfl)
             go_wp2_with (first
              | (go_at_call 75;refine(key03_any _ _).mono ?_;rintro e w' ⟨rfl,rfl⟩)
              | (go_at_call 76;refine(in03_any _ _ _).mono ?_;rintro e w' ⟨rfl,rfl⟩)
              | (go_at_call 77;refine(HNB.out _).mono ?_;rintro e w1 ⟨rfl,hex1⟩;have HE1:=Lib.hid hex1;have hz1:=hex1.size;simp at hz1;have hy1:w.heap.size < w1.heap.size:=(by omega);have hb1:=(hex1.block w.heap.size (by simp) (by simp)).trans (heap_alloc_new w _);obtain⟨⟨d0,d1,d2,d3,d4,d5,d6,d7,d8,d9,d10,d11,d12⟩,fz⟩:=st_block hb1;clear hex1 hb1 hz1)
              | (go_at_call 78;refine(HPB.out w1 (HE1.out)).mono ?_;rintro e w2 ⟨rfl,hex2⟩;have HE2:=Lib.hid hex2;have hb2:=(hex2.block w.heap.size hy1 (by simp)).trans ((HE1.out.block w.heap.size (by simp) (by simp)).trans (heap_alloc_new w _));clear d0 d1 d2 d3 d4 d5 d6 d7 d8 d9 d10 d11 d12 fz;obtain⟨⟨d0,d1,d2,d3,d4,d5,d6,d7,d8,d9,d10,d11,d12⟩,fz⟩:=st_block hb2;clear hex2 hb2))
             go_ret
             exact⟨by rw [HK.out];rfl,Ex.new _ _⟩
           | true=>
             go_upto_region 7 with(first
              | (go_at_call 75;refine(key03_any _ _).mono ?_;rintro e w' ⟨rfl,rfl⟩)
              | (go_at_call 76;refine(in03_any _ _ _).mono ?_;rintro e w' ⟨rfl,rfl⟩)
              | (go_at_call 77;refine(HNB.out _).mono ?_;rintro e w1 ⟨rfl,hex1⟩;have HE1:=Lib.hid hex1;have hz1:=hex1.size;simp at hz1;have hy1:w.heap.size < w1.heap.size:=(by omega);have hb1:=(hex1.block w.heap.size (by simp) (by simp)).trans (heap_alloc_new w _);obtain⟨⟨d0,d1,d2,d3,d4,d5,d6,d7,d8,d9,d10,d11,d12⟩,fz⟩:=st_block hb1;clear hex1 hb1 hz1)
              | (go_at_call 78;refine(HPB.out w1 (HE1.out)).mono ?_;rintro e w2 ⟨rfl,hex2⟩;have HE2:=Lib.hid hex2;have hb2:=(hex2.block w.heap.size hy1 (by simp)).trans ((HE1.out.block w.heap.size (by simp) (by simp)).trans (heap_alloc_new w _));clear d0 d1 d2 d3 d4 d5 d6 d7 d8 d9 d10 d11 d12 fz;obtain⟨⟨d0,d1,d2,d3,d4,d5,d6,d7,d8,d9,d10,d11,d12⟩,fz⟩:=st_block hb2;clear hex2 hb2))
             cases h4:numB s with
             | false=>
               have HK:Hid (checkI s=2):=Lib.hid (by rw [checkB_eq];(simp only [checkB,h1,Ke1.out,Ke3.out,Ke4.out,Ke5.out,h3,h4]) <;> rfl)
               go_wp2_with (first
                | (go_at_call 75;refine(key03_any _ _).mono ?_;rintro e w' ⟨rfl,rfl⟩)
                | (go_at_call 76;refine(in03_any _ _ _).mono ?_;rintro e w' ⟨rfl,rfl⟩)
                | (go_at_call 77;refine(HNB.out _).mono ?_;rintro e w1 ⟨rfl,hex1⟩;have HE1:=Lib.hid hex1;have hz1:=hex1.size;simp at hz1;have hy1:w.heap.size < w1.heap.size:=(by omega);have hb1:=(hex1.block w.heap.size (by simp) (by simp)).trans (heap_alloc_new w _);obtain⟨⟨d0,d1,d2,d3,d4,d5,d6,d7,d8,d9,d10,d11,d12⟩,fz⟩:=st_block hb1;clear hex1 hb1 hz1)
                | (go_at_call 78;refine(HPB.out w1 (HE1.out)).mono ?_;rintro e w2 ⟨rfl,hex2⟩;have HE2:=Lib.hid hex2;have hb2:=(hex2.block w.heap.size hy1 (by simp)).trans ((HE1.out.block w.heap.size (by simp) (by simp)).trans (heap_alloc_new w _));clear d0 d1 d2 d3 d4 d5 d6 d7 d8 d9 d10 d11 d12 fz;obtain⟨⟨d0,d1,d2,d3,d4,d5,d6,d7,d8,d9,d10,d11,d12⟩,fz⟩:=st_block hb2;clear hex2 hb2))
               go_ret
               exact⟨by rw [HK.out];rfl,(Ex.new w _).trans HE1.out (by simp) (by simp)⟩
             | true=>
               go_upto_region 9 with(first
                | (go_at_call 75;refine(key03_any _ _).mono ?_;rintro e w' ⟨rfl,rfl⟩)
                | (go_at_call 76;refine(in03_any _ _ _).mono ?_;rintro e w' ⟨rfl,rfl⟩)
                | (go_at_call 77;refine(HNB.out _).mono ?_;rintro e w1 ⟨rfl,hex1⟩;have HE1:=Lib.hid hex1;have hz1:=hex1.size;simp at hz1;have hy1:w.heap.size < w1.heap.size:=(by omega);have hb1:=(hex1.block w.heap.size (by simp) (by simp)).trans (heap_alloc_new w _);obtain⟨⟨d0,d1,d2,d3,d4,d5,d6,d7,d8,d9,d10,d11,d12⟩,fz⟩:=st_block hb1;clear hex1 hb1 hz1)
                | (go_at_call 78;refine(HPB.out w1 (HE1.out)).mono ?_;rintro e w2 ⟨rfl,hex2⟩;have HE2:=Lib.hid hex2;have hb2:=(hex2.block w.heap.size hy1 (by simp)).trans ((HE1.out.block w.heap.size (by simp) (by simp)).trans (heap_alloc_new w _));clear d0 d1 d2 d3 d4 d5 d6 d7 d8 d9 d10 d11 d12 fz;obtain⟨⟨d0,d1,d2,d3,d4,d5,d6,d7,d8,d9,d10,d11,d12⟩,fz⟩:=st_block hb2;clear hex2 hb2))
               by_cases l1:64 < ln
               · have l1d:decide (64 < ln)=true:=decide_eq_true l1
                 have Kl1:Hid (decide (64 < s.list.length)=true):=Lib.hid (by rw [←HLN.out];exact l1d)
                 have HK:Hid (checkI s=3):=Lib.hid (by rw [checkB_eq];(simp only [checkB,h1,Ke1.out,Ke3.out,Ke4.out,Ke5.out,h3,h4,Kl1.out]) <;> rfl)
                 go_wp2_with (first
                  | (go_at_call 75;refine(key03_any _ _).mono ?_;rintro e w' ⟨rfl,rfl⟩)
                  | (go_at_call 76;refine(in03_any _ _ _).mono ?_;rintro e w' ⟨rfl,rfl⟩)
                  | (go_at_call 77;refine(HNB.out _).mono ?_;rintro e w1 ⟨rfl,hex1⟩;have HE1:=Lib.hid hex1;have hz1:=hex1.size;simp at hz1;have hy1:w.heap.size < w1.heap.size:=(by omega);have hb1:=(hex1.block w.heap.size (by simp) (by simp)).trans (heap_alloc_new w _);obtain⟨⟨d0,d1,d2,d3,d4,d5,d6,d7,d8,d9,d10,d11,d12⟩,fz⟩:=st_block hb1;clear hex1 hb1 hz1)
                  | (go_at_call 78;refine(HPB.out w1 (HE1.out)).mono ?_;rintro e w2 ⟨rfl,hex2⟩;have HE2:=Lib.hid hex2;have hb2:=(hex2.block w.heap.size hy1 (by simp)).trans ((HE1.out.block w.heap.size (by simp) (by simp)).trans (heap_alloc_new w _));clear d0 d1 d2 d3 d4 d5 d6 d7 d8 d9 d10 d11 d12 fz;obtain⟨⟨d0,d1,d2,d3,d4,d5,d6,d7,d8,d9,d10,d11,d12⟩,fz⟩:=st_block hb2;clear hex2 hb2))
                 go_ret
                 exact⟨by rw [HK.out];rfl,(Ex.new w _).trans HE1.out (by simp) (by simp)⟩
               · have l1d:decide (64 < ln)=false:=decide_eq_false l1
                 have Kl1:Hid (decide (64 < s.list.length)=false):=Lib.hid (by rw [←HLN.out];exact l1d)
                 by_cases l2:64 < pn
                 · have l2d:decide (64 < pn)=true:=decide_eq_true l2
                   have Kl2:Hid (decide (64 < s.pins.length)=true):=Lib.hid (by rw [←HPN.out];exact l2d)
                   have HK:Hid (checkI s=3):=Lib.hid (by rw [checkB_eq];(simp only [checkB,h1,Ke1.out,Ke3.out,Ke4.out,Ke5.out,h3,h4,Kl1.out,Kl2.out]) <;> rfl)
                   go_wp2_with (first
                    | (go_at_call 75;refine(key03_any _ _).mono ?_;rintro e w' ⟨rfl,rfl⟩)
                    | (go_at_call 76;refine(in03_any _ _ _).mono ?_;rintro e w' ⟨rfl,rfl⟩)
                    | (go_at_call 77;refine(HNB.out _).mono ?_;rintro e w1 ⟨rfl,hex1⟩;have HE1:=Lib.hid hex1;have hz1:=hex1.size;simp at hz1;have hy1:w.heap.size < w1.heap.size:=(by omega);have hb1:=(hex1.block w.heap.size (by simp) (by simp)).trans (heap_alloc_new w _);obtain⟨⟨d0,d1,d2,d3,d4,d5,d6,d7,d8,d9,d10,d11,d12⟩,fz⟩:=st_block hb1;clear hex1 hb1 hz1)
                    | (go_at_call 78;refine(HPB.out w1 (HE1.out)).mono ?_;rintro e w2 ⟨rfl,hex2⟩;have HE2:=Lib.hid hex2;have hb2:=(hex2.block w.heap.size hy1 (by simp)).trans ((HE1.out.block w.heap.size (by simp) (by simp)).trans (heap_alloc_new w _));clear d0 d1 d2 d3 d4 d5 d6 d7 d8 d9 d10 d11 d12 fz;obtain⟨⟨d0,d1,d2,d3,d4,d5,d6,d7,d8,d9,d10,d11,d12⟩,fz⟩:=st_block hb2;clear hex2 hb2))
                   go_ret
                   exact⟨by rw [HK.out];rfl,(Ex.new w _).trans HE1.out (by simp) (by simp)⟩
                 · have l2d:decide (64 < pn)=false:=decide_eq_false l2
                   have Kl2:Hid (decide (64 < s.pins.length)=false):=Lib.hid (by rw [←HPN.out];exact l2d)
                   by_cases l3:4096 < s.body.size
                   · have l3d:decide (4096 < s.body.size)=true:=decide_eq_true l3
                     have Kl3:Hid (decide (4096 < s.body.size)=true):=Lib.hid (by exact l3d)
                     have HK:Hid (checkI s=3):=Lib.hid (by rw [checkB_eq];(simp only [checkB,h1,Ke1.out,Ke3.out,Ke4.out,Ke5.out,h3,h4,Kl1.out,Kl2.out,Kl3.out]) <;> rfl)
                     go_wp2_with (first
                      | (go_at_call 75;refine(key03_any _ _).mono ?_;rintro e w' ⟨rfl,rfl⟩)
                      | (go_at_call 76;refine(in03_any _ _ _).mono ?_;rintro e w' ⟨rfl,rfl⟩)
                      | (go_at_call 77;refine(HNB.out _).mono ?_;rintro e w1 ⟨rfl,hex1⟩;have HE1:=Lib.hid hex1;have hz1:=hex1.size;simp at hz1;have hy1:w.heap.size < w1.heap.size:=(by omega);have hb1:=(hex1.block w.heap.size (by simp) (by simp)).trans (heap_alloc_new w _);obtain⟨⟨d0,d1,d2,d3,d4,d5,d6,d7,d8,d9,d10,d11,d12⟩,fz⟩:=st_block hb1;clear hex1 hb1 hz1)
                      | (go_at_call 78;refine(HPB.out w1 (HE1.out)).mono ?_;rintro e w2 ⟨rfl,hex2⟩;have HE2:=Lib.hid hex2;have hb2:=(hex2.block w.heap.size hy1 (by simp)).trans ((HE1.out.block w.heap.size (by simp) (by simp)).trans (heap_alloc_new w _));clear d0 d1 d2 d3 d4 d5 d6 d7 d8 d9 d10 d11 d12 fz;obtain⟨⟨d0,d1,d2,d3,d4,d5,d6,d7,d8,d9,d10,d11,d12⟩,fz⟩:=st_block hb2;clear hex2 hb2))
                     go_ret
                     exact⟨by rw [HK.out];rfl,(Ex.new w _).trans HE1.out (by simp) (by simp)⟩
                   · have l3d:decide (4096 < s.body.size)=false:=decide_eq_false l3
                     have Kl3:Hid (decide (4096 < s.body.size)=false):=Lib.hid (by exact l3d)
                     go_upto_region 11 with(first
                      | (go_at_call 75;refine(key03_any _ _).mono ?_;rintro e w' ⟨rfl,rfl⟩)
                      | (go_at_call 76;refine(in03_any _ _ _).mono ?_;rintro e w' ⟨rfl,rfl⟩)
                      | (go_at_call 77;refine(HNB.out _).mono ?_;rintro e w1 ⟨rfl,hex1⟩;have HE1:=Lib.hid hex1;have hz1:=hex1.size;simp at hz1;have hy1:w.heap.size < w1.heap.size:=(by omega);have hb1:=(hex1.block w.heap.size (by simp) (by simp)).trans (heap_alloc_new w _);obtain⟨⟨d0,d1,d2,d3,d4,d5,d6,d7,d8,d9,d10,d11,d12⟩,fz⟩:=st_block hb1;clear hex1 hb1 hz1)
                      | (go_at_call 78;refine(HPB.out w1 (HE1.out)).mono ?_;rintro e w2 ⟨rfl,hex2⟩;have HE2:=Lib.hid hex2;have hb2:=(hex2.block w.heap.size hy1 (by simp)).trans ((HE1.out.block w.heap.size (by simp) (by simp)).trans (heap_alloc_new w _));clear d0 d1 d2 d3 d4 d5 d6 d7 d8 d9 d10 d11 d12 fz;obtain⟨⟨d0,d1,d2,d3,d4,d5,d6,d7,d8,d9,d10,d11,d12⟩,fz⟩:=st_block hb2;clear hex2 hb2))
                     have HNUM:Hid (inB s.number 199=true):=(show _=_ by have:=h4;simp only [numB,Bool.and_eq_true] at this;exact this.1.1.1.1.1)
                     by_cases n0:s.number=0
                     · have n0d: (s.number == 0)=true:=by simp [n0]
                       have n0e:decide (0 < s.number)=false:=by simp [n0]
                       have Kn0:=Lib.hid (decide_eq_true n0)
                       have Kn1:=Lib.hid n0e
                       clear n0
                       by_cases p0:s.prev= ⟨#[]⟩
                       · obtain⟨p0a,p0b,p0c⟩:=empty_facts p0
                         have Kp0:=Lib.hid (decide_eq_true p0)
                         clear p0
                         cases h6:pinsB s.pins with
                         | false=>
                           have HK:Hid (checkI s=1):=Lib.hid (by rw [checkB_eq];(simp only [checkB,h1,Ke1.out,Ke3.out,Ke4.out,Ke5.out,h3,h4,Kl1.out,Kl2.out,Kl3.out,Kn0.out,Kn1.out,Kp0.out,h6]) <;> rfl)
                           go_wp2_with (first
                            | (go_at_call 75;refine(key03_any _ _).mono ?_;rintro e w' ⟨rfl,rfl⟩)
                            | (go_at_call 76;refine(in03_any _ _ _).mono ?_;rintro e w' ⟨rfl,rfl⟩)
                            | (go_at_call 77;refine(HNB.out _).mono ?_;rintro e w1 ⟨rfl,hex1⟩;have HE1:=Lib.hid hex1;have hz1:=hex1.size;simp at hz1;have hy1:w.heap.size < w1.heap.size:=(by omega);have hb1:=(hex1.block w.heap.size (by simp) (by simp)).trans (heap_alloc_new w _);obtain⟨⟨d0,d1,d2,d3,d4,d5,d6,d7,d8,d9,d10,d11,d12⟩,fz⟩:=st_block hb1;clear hex1 hb1 hz1)
                            | (go_at_call 78;refine(HPB.out w1 (HE1.out)).mono ?_;rintro e w2 ⟨rfl,hex2⟩;have HE2:=Lib.hid hex2;have hb2:=(hex2.block w.heap.size hy1 (by simp)).trans ((HE1.out.block w.heap.size (by simp) (by simp)).trans (heap_alloc_new w _));clear d0 d1 d2 d3 d4 d5 d6 d7 d8 d9 d10 d11 d12 fz;obtain⟨⟨d0,d1,d2,d3,d4,d5,d6,d7,d8,d9,d10,d11,d12⟩,fz⟩:=st_block hb2;clear hex2 hb2))
                           go_ret
                           exact⟨by rw [HK.out];rfl,((Ex.new w _).trans HE1.out (by simp) (by simp)).trans HE2.out (by omega) (by simp)⟩
                         | true=>
                           go_upto_region 13 with(first
                            | (go_at_call 75;refine(key03_any _ _).mono ?_;rintro e w' ⟨rfl,rfl⟩)
                            | (go_at_call 76;refine(in03_any _ _ _).mono ?_;rintro e w' ⟨rfl,rfl⟩)
                            | (go_at_call 77;refine(HNB.out _).mono ?_;rintro e w1 ⟨rfl,hex1⟩;have HE1:=Lib.hid hex1;have hz1:=hex1.size;simp at hz1;have hy1:w.heap.size < w1.heap.size:=(by omega);have hb1:=(hex1.block w.heap.size (by simp) (by simp)).trans (heap_alloc_new w _);obtain⟨⟨d0,d1,d2,d3,d4,d5,d6,d7,d8,d9,d10,d11,d12⟩,fz⟩:=st_block hb1;clear hex1 hb1 hz1)
                            | (go_at_call 78;refine(HPB.out w1 (HE1.out)).mono ?_;rintro e w2 ⟨rfl,hex2⟩;have HE2:=Lib.hid hex2;have hb2:=(hex2.block w.heap.size hy1 (by simp)).trans ((HE1.out.block w.heap.size (by simp) (by simp)).trans (heap_alloc_new w _));clear d0 d1 d2 d3 d4 d5 d6 d7 d8 d9 d10 d11 d12 fz;obtain⟨⟨d0,d1,d2,d3,d4,d5,d6,d7,d8,d9,d10,d11,d12⟩,fz⟩:=st_block hb2;clear hex2 hb2))
                           have z1d:decide (s.kind≤3)=false:=decide_eq_false (by omega)
                           have Kz1:=Lib.hid z1d
                           have HK:Hid (checkI s=0):=Lib.hid (by rw [checkB_eq];(simp only [checkB,h1,Ke1.out,Ke3.out,Ke4.out,Ke5.out,h3,h4,Kl1.out,Kl2.out,Kl3.out,Kn0.out,Kn1.out,Kp0.out,h6,Kz1.out]) <;> rfl)
                           go_wp2_with (first
                            | (go_at_call 75;refine(key03_any _ _).mono ?_;rintro e w' ⟨rfl,rfl⟩)
                            | (go_at_call 76;refine(in03_any _ _ _).mono ?_;rintro e w' ⟨rfl,rfl⟩)
                            | (go_at_call 77;refine(HNB.out _).mono ?_;rintro e w1 ⟨rfl,hex1⟩;have HE1:=Lib.hid hex1;have hz1:=hex1.size;simp at hz1;have hy1:w.heap.size < w1.heap.size:=(by omega);have hb1:=(hex1.block w.heap.size (by simp) (by simp)).trans (heap_alloc_new w _);obtain⟨⟨d0,d1,d2,d3,d4,d5,d6,d7,d8,d9,d10,d11,d12⟩,fz⟩:=st_block hb1;clear hex1 hb1 hz1)
                            | (go_at_call 78;refine(HPB.out w1 (HE1.out)).mono ?_;rintro e w2 ⟨rfl,hex2⟩;have HE2:=Lib.hid hex2;have hb2:=(hex2.block w.heap.size hy1 (by simp)).trans ((HE1.out.block w.heap.size (by simp) (by simp)).trans (heap_alloc_new w _));clear d0 d1 d2 d3 d4 d5 d6 d7 d8 d9 d10 d11 d12 fz;obtain⟨⟨d0,d1,d2,d3,d4,d5,d6,d7,d8,d9,d10,d11,d12⟩,fz⟩:=st_block hb2;clear hex2 hb2))
                           go_ret
                           exact⟨by rw [HK.out];rfl,((Ex.new w _).trans HE1.out (by simp) (by simp)).trans HE2.out (by omega) (by simp)⟩
                       · obtain⟨p0a,p0b,p0c⟩:=nonempty_facts p0
                         have Kp0:=Lib.hid (decide_eq_false p0)
                         clear p0
                         have HK:Hid (checkI s=1):=Lib.hid (by rw [checkB_eq];(simp only [checkB,h1,Ke1.out,Ke3.out,Ke4.out,Ke5.out,h3,h4,Kl1.out,Kl2.out,Kl3.out,Kn0.out,Kn1.out,Kp0.out]) <;> rfl)
                         go_wp2_with (first
                          | (go_at_call 75;refine(key03_any _ _).mono ?_;rintro e w' ⟨rfl,rfl⟩)
                          | (go_at_call 76;refine(in03_any _ _ _).mono ?_;rintro e w' ⟨rfl,rfl⟩)
                          | (go_at_call 77;refine(HNB.out _).mono ?_;rintro e w1 ⟨rfl,hex1⟩;have HE1:=Lib.hid hex1;have hz1:=hex1.size;simp at hz1;have hy1:w.heap.size < w1.heap.size:=(by omega);have hb1:=(hex1.block w.heap.size (by simp) (by simp)).trans (heap_alloc_new w _);obtain⟨⟨d0,d1,d2,d3,d4,d5,d6,d7,d8,d9,d10,d11,d12⟩,fz⟩:=st_block hb1;clear hex1 hb1 hz1)
                          | (go_at_call 78;refine(HPB.out w1 (HE1.out)).mono ?_;rintro e w2 ⟨rfl,hex2⟩;have HE2:=Lib.hid hex2;have hb2:=(hex2.block w.heap.size hy1 (by simp)).trans ((HE1.out.block w.heap.size (by simp) (by simp)).trans (heap_alloc_new w _));clear d0 d1 d2 d3 d4 d5 d6 d7 d8 d9 d10 d11 d12 fz;obtain⟨⟨d0,d1,d2,d3,d4,d5,d6,d7,d8,d9,d10,d11,d12⟩,fz⟩:=st_block hb2;clear hex2 hb2))
                         go_ret
                         exact⟨by rw [HK.out];rfl,(Ex.new w _).trans HE1.out (by simp) (by simp)⟩
                     · have n0d: (s.number == 0)=false:=by simp [n0]
                       have n1:0 < s.number:=by have:=(inB_iff.1 HNUM.out).1;omega
                       have n0e:decide (0 < s.number)=true:=decide_eq_true n1
                       have Kn0:=Lib.hid (decide_eq_false n0)
                       have Kn1:=Lib.hid n0e
                       by_cases p1:s.prev.size=32
                       · have p1d: (((s.prev.size:Nat):Int) != 32)=false:=by simp [p1]
                         have Kp1:=Lib.hid (decide_eq_true p1)
                         clear p1
                         cases h6:pinsB s.pins with
                         | false=>
                           have HK:Hid (checkI s=1):=Lib.hid (by rw [checkB_eq];(simp only [checkB,h1,Ke1.out,Ke3.out,Ke4.out,Ke5.out,h3,h4,Kl1.out,Kl2.out,Kl3.out,Kn0.out,Kn1.out,Kp1.out,h6]) <;> rfl)
                           go_wp2_with (first
                            | (go_at_call 75;refine(key03_any _ _).mono ?_;rintro e w' ⟨rfl,rfl⟩)
                            | (go_at_call 76;refine(in03_any _ _ _).mono ?_;rintro e w' ⟨rfl,rfl⟩)
                            | (go_at_call 77;refine(HNB.out _).mono ?_;rintro e w1 ⟨rfl,hex1⟩;have HE1:=Lib.hid hex1;have hz1:=hex1.size;simp at hz1;have hy1:w.heap.size < w1.heap.size:=(by omega);have hb1:=(hex1.block w.heap.size (by simp) (by simp)).trans (heap_alloc_new w _);obtain⟨⟨d0,d1,d2,d3,d4,d5,d6,d7,d8,d9,d10,d11,d12⟩,fz⟩:=st_block hb1;clear hex1 hb1 hz1)
                            | (go_at_call 78;refine(HPB.out w1 (HE1.out)).mono ?_;rintro e w2 ⟨rfl,hex2⟩;have HE2:=Lib.hid hex2;have hb2:=(hex2.block w.heap.size hy1 (by simp)).trans ((HE1.out.block w.heap.size (by simp) (by simp)).trans (heap_alloc_new w _));clear d0 d1 d2 d3 d4 d5 d6 d7 d8 d9 d10 d11 d12 fz;obtain⟨⟨d0,d1,d2,d3,d4,d5,d6,d7,d8,d9,d10,d11,d12⟩,fz⟩:=st_block hb2;clear hex2 hb2))
                           go_ret
                           exact⟨by rw [HK.out];rfl,((Ex.new w _).trans HE1.out (by simp) (by simp)).trans HE2.out (by omega) (by simp)⟩
                         | true=>
                           go_upto_region 13 with(first
                            | (go_at_call 75;refine(key03_any _ _).mono ?_;rintro e w' ⟨rfl,rfl⟩)
                            | (go_at_call 76;refine(in03_any _ _ _).mono ?_;rintro e w' ⟨rfl,rfl⟩)
                            | (go_at_call 77;refine(HNB.out _).mono ?_;rintro e w1 ⟨rfl,hex1⟩;have HE1:=Lib.hid hex1;have hz1:=hex1.size;simp at hz1;have hy1:w.heap.size < w1.heap.size:=(by omega);have hb1:=(hex1.block w.heap.size (by simp) (by simp)).trans (heap_alloc_new w _);obtain⟨⟨d0,d1,d2,d3,d4,d5,d6,d7,d8,d9,d10,d11,d12⟩,fz⟩:=st_block hb1;clear hex1 hb1 hz1)
                            | (go_at_call 78;refine(HPB.out w1 (HE1.out)).mono ?_;rintro e w2 ⟨rfl,hex2⟩;have HE2:=Lib.hid hex2;have hb2:=(hex2.block w.heap.size hy1 (by simp)).trans ((HE1.out.block w.heap.size (by simp) (by simp)).trans (heap_alloc_new w _));clear d0 d1 d2 d3 d4 d5 d6 d7 d8 d9 d10 d11 d12 fz;obtain⟨⟨d0,d1,d2,d3,d4,d5,d6,d7,d8,d9,d10,d11,d12⟩,fz⟩:=st_block hb2;clear hex2 hb2))
                           have z1d:decide (s.kind≤3)=false:=decide_eq_false (by omega)
                           have Kz1:=Lib.hid z1d
                           have HK:Hid (checkI s=0):=Lib.hid (by rw [checkB_eq];(simp only [checkB,h1,Ke1.out,Ke3.out,Ke4.out,Ke5.out,h3,h4,Kl1.out,Kl2.out,Kl3.out,Kn0.out,Kn1.out,Kp1.out,h6,Kz1.out]) <;> rfl)
                           go_wp2_with (first
                            | (go_at_call 75;refine(key03_any _ _).mono ?_;rintro e w' ⟨rfl,rfl⟩)
                            | (go_at_call 76;refine(in03_any _ _ _).mono ?_;rintro e w' ⟨rfl,rfl⟩)
                            | (go_at_call 77;refine(HNB.out _).mono ?_;rintro e w1 ⟨rfl,hex1⟩;have HE1:=Lib.hid hex1;have hz1:=hex1.size;simp at hz1;have hy1:w.heap.size < w1.heap.size:=(by omega);have hb1:=(hex1.block w.heap.size (by simp) (by simp)).trans (heap_alloc_new w _);obtain⟨⟨d0,d1,d2,d3,d4,d5,d6,d7,d8,d9,d10,d11,d12⟩,fz⟩:=st_block hb1;clear hex1 hb1 hz1)
                            | (go_at_call 78;refine(HPB.out w1 (HE1.out)).mono ?_;rintro e w2 ⟨rfl,hex2⟩;have HE2:=Lib.hid hex2;have hb2:=(hex2.block w.heap.size hy1 (by simp)).trans ((HE1.out.block w.heap.size (by simp) (by simp)).trans (heap_alloc_new w _));clear d0 d1 d2 d3 d4 d5 d6 d7 d8 d9 d10 d11 d12 fz;obtain⟨⟨d0,d1,d2,d3,d4,d5,d6,d7,d8,d9,d10,d11,d12⟩,fz⟩:=st_block hb2;clear hex2 hb2))
                           go_ret
                           exact⟨by rw [HK.out];rfl,((Ex.new w _).trans HE1.out (by simp) (by simp)).trans HE2.out (by omega) (by simp)⟩
                       · have p1d: (((s.prev.size:Nat):Int) != 32)=true:=by simp;omega
                         have Kp1:=Lib.hid (decide_eq_false p1)
                         clear p1
                         have HK:Hid (checkI s=1):=Lib.hid (by rw [checkB_eq];(simp only [checkB,h1,Ke1.out,Ke3.out,Ke4.out,Ke5.out,h3,h4,Kl1.out,Kl2.out,Kl3.out,Kn0.out,Kn1.out,Kp1.out]) <;> rfl)
                         go_wp2_with (first
                          | (go_at_call 75;refine(key03_any _ _).mono ?_;rintro e w' ⟨rfl,rfl⟩)
                          | (go_at_call 76;refine(in03_any _ _ _).mono ?_;rintro e w' ⟨rfl,rfl⟩)
                          | (go_at_call 77;refine(HNB.out _).mono ?_;rintro e w1 ⟨rfl,hex1⟩;have HE1:=Lib.hid hex1;have hz1:=hex1.size;simp at hz1;have hy1:w.heap.size < w1.heap.size:=(by omega);have hb1:=(hex1.block w.heap.size (by simp) (by simp)).trans (heap_alloc_new w _);obtain⟨⟨d0,d1,d2,d3,d4,d5,d6,d7,d8,d9,d10,d11,d12⟩,fz⟩:=st_block hb1;clear hex1 hb1 hz1)
                          | (go_at_call 78;refine(HPB.out w1 (HE1.out)).mono ?_;rintro e w2 ⟨rfl,hex2⟩;have HE2:=Lib.hid hex2;have hb2:=(hex2.block w.heap.size hy1 (by simp)).trans ((HE1.out.block w.heap.size (by simp) (by simp)).trans (heap_alloc_new w _));clear d0 d1 d2 d3 d4 d5 d6 d7 d8 d9 d10 d11 d12 fz;obtain⟨⟨d0,d1,d2,d3,d4,d5,d6,d7,d8,d9,d10,d11,d12⟩,fz⟩:=st_block hb2;clear hex2 hb2))
                         go_ret
                         exact⟨by rw [HK.out];rfl,(Ex.new w _).trans HE1.out (by simp) (by simp)⟩
     · have e3d:decide (3 < s.kind)=false:=decide_eq_false e3
       have Ke3:=Lib.hid e3d
       have e5d:decide (31 < s.kind)=false:=decide_eq_false (by omega)
       have Ke5:=Lib.hid e5d
       go_upto_region 5 with(first
        | (go_at_call 75;refine(key03_any _ _).mono ?_;rintro e w' ⟨rfl,rfl⟩)
        | (go_at_call 76;refine(in03_any _ _ _).mono ?_;rintro e w' ⟨rfl,rfl⟩)
        | (go_at_call 77;refine(HNB.out _).mono ?_;rintro e w1 ⟨rfl,hex1⟩;have HE1:=Lib.hid hex1;have hz1:=hex1.size;simp at hz1;have hy1:w.heap.size < w1.heap.size:=(by omega);have hb1:=(hex1.block w.heap.size (by simp) (by simp)).trans (heap_alloc_new w _);obtain⟨⟨d0,d1,d2,d3,d4,d5,d6,d7,d8,d9,d10,d11,d12⟩,fz⟩:=st_block hb1;clear hex1 hb1 hz1)
        | (go_at_call 78;refine(HPB.out w1 (HE1.out)).mono ?_;rintro e w2 ⟨rfl,hex2⟩;have HE2:=Lib.hid hex2;have hb2:=(hex2.block w.heap.size hy1 (by simp)).trans ((HE1.out.block w.heap.size (by simp) (by simp)).trans (heap_alloc_new w _));clear d0 d1 d2 d3 d4 d5 d6 d7 d8 d9 d10 d11 d12 fz;obtain⟨⟨d0,d1,d2,d3,d4,d5,d6,d7,d8,d9,d10,d11,d12⟩,fz⟩:=st_block hb2;clear hex2 hb2))
       cases h3:inB s.time 2147483648 with
       | false=>
         have HK:Hid (checkI s=9):=Lib.hid (by rw [checkB_eq];(simp only [checkB,h1,Ke1.out,Ke3.out,Ke5.out,h3]) <;> rfl)
         go_wp2_with (first
          | (go_at_call 75;refine(key03_any _ _).mono ?_;rintro e w' ⟨rfl,rfl⟩)
          | (go_at_call 76;refine(in03_any _ _ _).mono ?_;rintro e w' ⟨rfl,rfl⟩)
          | (go_at_call 77;refine(HNB.out _).mono ?_;rintro e w1 ⟨rfl,hex1⟩;have HE1:=Lib.hid hex1;have hz1:=hex1.size;simp at hz1;have hy1:w.heap.size < w1.heap.size:=(by omega);have hb1:=(hex1.block w.heap.size (by simp) (by simp)).trans (heap_alloc_new w _);obtain⟨⟨d0,d1,d2,d3,d4,d5,d6,d7,d8,d9,d10,d11,d12⟩,fz⟩:=st_block hb1;clear hex1 hb1 hz1)
          | (go_at_call 78;refine(HPB.out w1 (HE1.out)).mono ?_;rintro e w2 ⟨rfl,hex2⟩;have HE2:=Lib.hid hex2;have hb2:=(hex2.block w.heap.size hy1 (by simp)).trans ((HE1.out.block w.heap.size (by simp) (by simp)).trans (heap_alloc_new w _));clear d0 d1 d2 d3 d4 d5 d6 d7 d8 d9 d10 d11 d12 fz;obtain⟨⟨d0,d1,d2,d3,d4,d5,d6,d7,d8,d9,d10,d11,d12⟩,fz⟩:=st_block hb2;clear hex2 hb2))
         go_ret
         exact⟨by rw [HK.out];rfl,Ex.new _ _⟩
       | true=>
         go_upto_region 7 with(first
          | (go_at_call 75;refine(key03_any _ _).mono ?_;rintro e w' ⟨rfl,rfl⟩)
          | (go_at_call 76;refine(in03_any _ _ _).mono ?_;rintro e w' ⟨rfl,rfl⟩)
          | (go_at_call 77;refine(HNB.out _).mono ?_;rintro e w1 ⟨rfl,hex1⟩;have HE1:=Lib.hid hex1;have hz1:=hex1.size;simp at hz1;have hy1:w.heap.size < w1.heap.size:=(by omega);have hb1:=(hex1.block w.heap.size (by simp) (by simp)).trans (heap_alloc_new w _);obtain⟨⟨d0,d1,d2,d3,d4,d5,d6,d7,d8,d9,d10,d11,d12⟩,fz⟩:=st_block hb1;clear hex1 hb1 hz1)
          | (go_at_call 78;refine(HPB.out w1 (HE1.out)).mono ?_;rintro e w2 ⟨rfl,hex2⟩;have HE2:=Lib.hid hex2;have hb2:=(hex2.block w.heap.size hy1 (by simp)).trans ((HE1.out.block w.heap.size (by simp) (by simp)).trans (heap_alloc_new w _));clear d0 d1 d2 d3 d4 d5 d6 d7 d8 d9 d10 d11 d12 fz;obtain⟨⟨d0,d1,d2,d3,d4,d5,d6,d7,d8,d9,d10,d11,d12⟩,fz⟩:=st_block hb2;clear hex2 hb2))
         cases h4:numB s with
         | false=>
           have HK:Hid (checkI s=2):=Lib.hid (by rw [checkB_eq];(simp only [checkB,h1,Ke1.out,Ke3.out,Ke5.out,h3,h4]) <;> rfl)
           go_wp2_with (first
            | (go_at_call 75;refine(key03_any _ _).mono ?_;rintro e w' ⟨rfl,rfl⟩)
            | (go_at_call 76;refine(in03_any _ _ _).mono ?_;rintro e w' ⟨rfl,rfl⟩)
            | (go_at_call 77;refine(HNB.out _).mono ?_;rintro e w1 ⟨rfl,hex1⟩;have HE1:=Lib.hid hex1;have hz1:=hex1.size;simp at hz1;have hy1:w.heap.size < w1.heap.size:=(by omega);have hb1:=(hex1.block w.heap.size (by simp) (by simp)).trans (heap_alloc_new w _);obtain⟨⟨d0,d1,d2,d3,d4,d5,d6,d7,d8,d9,d10,d11,d12⟩,fz⟩:=st_block hb1;clear hex1 hb1 hz1)
            | (go_at_call 78;refine(HPB.out w1 (HE1.out)).mono ?_;rintro e w2 ⟨rfl,hex2⟩;have HE2:=Lib.hid hex2;have hb2:=(hex2.block w.heap.size hy1 (by simp)).trans ((HE1.out.block w.heap.size (by simp) (by simp)).trans (heap_alloc_new w _));clear d0 d1 d2 d3 d4 d5 d6 d7 d8 d9 d10 d11 d12 fz;obtain⟨⟨d0,d1,d2,d3,d4,d5,d6,d7,d8,d9,d10,d11,d12⟩,fz⟩:=st_block hb2;clear hex2 hb2))
           go_ret
           exact⟨by rw [HK.out];rfl,(Ex.new w _).trans HE1.out (by simp) (by simp)⟩
         | true=>
           go_upto_region 9 with(first
            | (go_at_call 75;refine(key03_any _ _).mono ?_;rintro e w' ⟨rfl,rfl⟩)
            | (go_at_call 76;refine(in03_any _ _ _).mono ?_;rintro e w' ⟨rfl,rfl⟩)
            | (go_at_call 77;refine(HNB.out _).mono ?_;rintro e w1 ⟨rfl,hex1⟩;have HE1:=Lib.hid hex1;have hz1:=hex1.size;simp at hz1;have hy1:w.heap.size < w1.heap.size:=(by omega);have hb1:=(hex1.block w.heap.size (by simp) (by simp)).trans (heap_alloc_new w _);obtain⟨⟨d0,d1,d2,d3,d4,d5,d6,d7,d8,d9,d10,d11,d12⟩,fz⟩:=st_block hb1;clear hex1 hb1 hz1)
            | (go_at_call 78;refine(HPB.out w1 (HE1.out)).mono ?_;rintro e w2 ⟨rfl,hex2⟩;have HE2:=Lib.hid hex2;have hb2:=(hex2.block w.heap.size hy1 (by simp)).trans ((HE1.out.block w.heap.size (by simp) (by simp)).trans (heap_alloc_new w _));clear d0 d1 d2 d3 d4 d5 d6 d7 d8 d9 d10 d11 d12 fz;obtain⟨⟨d0,d1,d2,d3,d4,d5,d6,d7,d8,d9,d10,d11,d12⟩,fz⟩:=st_block hb2;clear hex2 hb2))
           by_cases l1:64 < ln
           · have l1d:decide (64 < ln)=true:=decide_eq_true l1
             have Kl1:Hid (decide (64 < s.list.length)=true):=Lib.hid (by rw [←HLN.out];exact l1d)
             have HK:Hid (checkI s=3):=Lib.hid (by rw [checkB_eq];(simp only [checkB,h1,Ke1.out,Ke3.out,Ke5.out,h3,h4,Kl1.out]) <;> rfl)
             go_wp2_with (first
              | (go_at_call 75;refine(key03_any _ _).mono ?_;rintro e w' ⟨rfl,rfl⟩)
              | (go_at_call 76;refine(in03_any _ _ _).mono ?_;rintro e w' ⟨rfl,rfl⟩)
              | (go_at_call 77;refine(HNB.out _).mono ?_;rintro e w1 ⟨rfl,hex1⟩;have HE1:=Lib.hid hex1;have hz1:=hex1.size;simp at hz1;have hy1:w.heap.size < w1.heap.size:=(by omega);have hb1:=(hex1.block w.heap.size (by simp) (by simp)).trans (heap_alloc_new w _);obtain⟨⟨d0,d1,d2,d3,d4,d5,d6,d7,d8,d9,d10,d11,d12⟩,fz⟩:=st_block hb1;clear hex1 hb1 hz1)
              | (go_at_call 78;refine(HPB.out w1 (HE1.out)).mono ?_;rintro e w2 ⟨rfl,hex2⟩;have HE2:=Lib.hid hex2;have hb2:=(hex2.block w.heap.size hy1 (by simp)).trans ((HE1.out.block w.heap.size (by simp) (by simp)).trans (heap_alloc_new w _));clear d0 d1 d2 d3 d4 d5 d6 d7 d8 d9 d10 d11 d12 fz;obtain⟨⟨d0,d1,d2,d3,d4,d5,d6,d7,d8,d9,d10,d11,d12⟩,fz⟩:=st_block hb2;clear hex2 hb2))
             go_ret
             exact⟨by rw [HK.out];rfl,(Ex.new w _).trans HE1.out (by simp) (by simp)⟩
           · have l1d:decide (64 < ln)=false:=decide_eq_false l1
             have Kl1:Hid (decide (64 < s.list.length)=false):=Lib.hid (by rw [←HLN.out];exact l1d)
             by_cases l2:64 < pn
             · have l2d:decide (64 < pn)=true:=decide_eq_true l2
               have Kl2:Hid (decide (64 < s.pins.length)=true):=Lib.hid (by rw [←HPN.out];exact l2d)
               have HK:Hid (checkI s=3):=Lib.hid (by rw [checkB_eq];(simp only [checkB,h1,Ke1.out,Ke3.out,Ke5.out,h3,h4,Kl1.out,Kl2.out]) <;> rfl)
               go_wp2_with (first
                | (go_at_call 75;refine(key03_any _ _).mono ?_;rintro e w' ⟨rfl,rfl⟩)
                | (go_at_call 76;refine(in03_any _ _ _).mono ?_;rintro e w' ⟨rfl,rfl⟩)
                | (go_at_call 77;refine(HNB.out _).mono ?_;rintro e w1 ⟨rfl,hex1⟩;have HE1:=Lib.hid hex1;have hz1:=hex1.size;simp at hz1;have hy1:w.heap.size < w1.heap.size:=(by omega);have hb1:=(hex1.block w.heap.size (by simp) (by simp)).trans (heap_alloc_new w _);obtain⟨⟨d0,d1,d2,d3,d4,d5,d6,d7,d8,d9,d10,d11,d12⟩,fz⟩:=st_block hb1;clear hex1 hb1 hz1)
                | (go_at_call 78;refine(HPB.out w1 (HE1.out)).mono ?_;rintro e w2 ⟨rfl,hex2⟩;have HE2:=Lib.hid hex2;have hb2:=(hex2.block w.heap.size hy1 (by simp)).trans ((HE1.out.block w.heap.size (by simp) (by simp)).trans (heap_alloc_new w _));clear d0 d1 d2 d3 d4 d5 d6 d7 d8 d9 d10 d11 d12 fz;obtain⟨⟨d0,d1,d2,d3,d4,d5,d6,d7,d8,d9,d10,d11,d12⟩,fz⟩:=st_block hb2;clear hex2 hb2))
               go_ret
               exact⟨by rw [HK.out];rfl,(Ex.new w _).trans HE1.out (by simp) (by simp)⟩
             · have l2d:decide (64 < pn)=false:=decide_eq_false l2
               have Kl2:Hid (decide (64 < s.pins.length)=false):=Lib.hid (by rw [←HPN.out];exact l2d)
               by_cases l3:4096 < s.body.size
               · have l3d:decide (4096 < s.body.size)=true:=decide_eq_true l3
                 have Kl3:Hid (decide (4096 < s.body.size)=true):=Lib.hid (by exact l3d)
                 have HK:Hid (checkI s=3):=Lib.hid (by rw [checkB_eq];(simp only [checkB,h1,Ke1.out,Ke3.out,Ke5.out,h3,h4,Kl1.out,Kl2.out,Kl3.out]) <;> rfl)
                 go_wp2_with (first
                  | (go_at_call 75;refine(key03_any _ _).mono ?_;rintro e w' ⟨rfl,rfl⟩)
                  | (go_at_call 76;refine(in03_any _ _ _).mono ?_;rintro e w' ⟨rfl,rfl⟩)
                  | (go_at_call 77;refine(HNB.out _).mono ?_;rintro e w1 ⟨rfl,hex1⟩;have HE1:=Lib.hid hex1;have hz1:=hex1.size;simp at hz1;have hy1:w.heap.size < w1.heap.size:=(by omega);have hb1:=(hex1.block w.heap.size (by simp) (by simp)).trans (heap_alloc_new w _);obtain⟨⟨d0,d1,d2,d3,d4,d5,d6,d7,d8,d9,d10,d11,d12⟩,fz⟩:=st_block hb1;clear hex1 hb1 hz1)
                  | (go_at_call 78;refine(HPB.out w1 (HE1.out)).mono ?_;rintro e w2 ⟨rfl,hex2⟩;have HE2:=Lib.hid hex2;have hb2:=(hex2.block w.heap.size hy1 (by simp)).trans ((HE1.out.block w.heap.size (by simp) (by simp)).trans (heap_alloc_new w _));clear d0 d1 d2 d3 d4 d5 d6 d7 d8 d9 d10 d11 d12 fz;obtain⟨⟨d0,d1,d2,d3,d4,d5,d6,d7,d8,d9,d10,d11,d12⟩,fz⟩:=st_block hb2;clear hex2 hb2))
                 go_ret
                 exact⟨by rw [HK.out];rfl,(Ex.new w _).trans HE1.out (by simp) (by simp)⟩
               · have l3d:decide (4096 < s.body.size)=false:=decide_eq_false l3
                 have Kl3:Hid (decide (4096 < s.body.size)=false):=Lib.hid (by exact l3d)
                 go_upto_region 11 with(first
                  | (go_at_call 75;refine(key03_any _ _).mono ?_;rintro e w' ⟨rfl,rfl⟩)
                  | (go_at_call 76;refine(in03_any _ _ _).mono ?_;rintro e w' ⟨rfl,rfl⟩)
                  | (go_at_call 77;refine(HNB.out _).mono ?_;rintro e w1 ⟨rfl,hex1⟩;have HE1:=Lib.hid hex1;have hz1:=hex1.size;simp at hz1;have hy1:w.heap.size < w1.heap.size:=(by omega);have hb1:=(hex1.block w.heap.size (by simp) (by simp)).trans (heap_alloc_new w _);obtain⟨⟨d0,d1,d2,d3,d4,d5,d6,d7,d8,d9,d10,d11,d12⟩,fz⟩:=st_block hb1;clear hex1 hb1 hz1)
                  | (go_at_call 78;refine(HPB.out w1 (HE1.out)).mono ?_;rintro e w2 ⟨rfl,hex2⟩;have HE2:=Lib.hid hex2;have hb2:=(hex2.block w.heap.size hy1 (by simp)).trans ((HE1.out.block w.heap.size (by simp) (by simp)).trans (heap_alloc_new w _));clear d0 d1 d2 d3 d4 d5 d6 d7 d8 d9 d10 d11 d12 fz;obtain⟨⟨d0,d1,d2,d3,d4,d5,d6,d7,d8,d9,d10,d11,d12⟩,fz⟩:=st_block hb2;clear hex2 hb2))
                 have HNUM:Hid (inB s.number 199=true):=(show _=_ by have:=h4;simp only [numB,Bool.and_eq_true] at this;exact this.1.1.1.1.1)
                 by_cases n0:s.number=0
                 · have n0d: (s.number == 0)=true:=by simp [n0]
                   have n0e:decide (0 < s.number)=false:=by simp [n0]
                   have Kn0:=Lib.hid (decide_eq_true n0)
                   have Kn1:=Lib.hid n0e
                   clear n0
                   by_cases p0:s.prev= ⟨#[]⟩
                   · obtain⟨p0a,p0b,p0c⟩:=empty_facts p0
                     have Kp0:=Lib.hid (decide_eq_true p0)
                     clear p0
                     cases h6:pinsB s.pins with
                     | false=>
                       have HK:Hid (checkI s=1):=Lib.hid (by rw [checkB_eq];(simp only [checkB,h1,Ke1.out,Ke3.out,Ke5.out,h3,h4,Kl1.out,Kl2.out,Kl3.out,Kn0.out,Kn1.out,Kp0.out,h6]) <;> rfl)
                       go_wp2_with (first
                        | (go_at_call 75;refine(key03_any _ _).mono ?_;rintro e w' ⟨rfl,rfl⟩)
                        | (go_at_call 76;refine(in03_any _ _ _).mono ?_;rintro e w' ⟨rfl,rfl⟩)
                        | (go_at_call 77;refine(HNB.out _).mono ?_;rintro e w1 ⟨rfl,hex1⟩;have HE1:=Lib.hid hex1;have hz1:=hex1.size;simp at hz1;have hy1:w.heap.size < w1.heap.size:=(by omega);have hb1:=(hex1.block w.heap.size (by simp) (by simp)).trans (heap_alloc_new w _);obtain⟨⟨d0,d1,d2,d3,d4,d5,d6,d7,d8,d9,d10,d11,d12⟩,fz⟩:=st_block hb1;clear hex1 hb1 hz1)
                        | (go_at_call 78;refine(HPB.out w1 (HE1.out)).mono ?_;rintro e w2 ⟨rfl,hex2⟩;have HE2:=Lib.hid hex2;have hb2:=(hex2.block w.heap.size hy1 (by simp)).trans ((HE1.out.block w.heap.size (by simp) (by simp)).trans (heap_alloc_new w _));clear d0 d1 d2 d3 d4 d5 d6 d7 d8 d9 d10 d11 d12 fz;obtain⟨⟨d0,d1,d2,d3,d4,d5,d6,d7,d8,d9,d10,d11,d12⟩,fz⟩:=st_block hb2;clear hex2 hb2))
                       go_ret
                       exact⟨by rw [HK.out];rfl,((Ex.new w _).trans HE1.out (by simp) (by simp)).trans HE2.out (by omega) (by simp)⟩
                     | true=>
                       go_upto_region 13 with(first
                        | (go_at_call 75;refine(key03_any _ _).mono ?_;rintro e w' ⟨rfl,rfl⟩)
                        | (go_at_call 76;refine(in03_any _ _ _).mono ?_;rintro e w' ⟨rfl,rfl⟩)
                        | (go_at_call 77;refine(HNB.out _).mono ?_;rintro e w1 ⟨rfl,hex1⟩;have HE1:=Lib.hid hex1;have hz1:=hex1.size;simp at hz1;have hy1:w.heap.size < w1.heap.size:=(by omega);have hb1:=(hex1.block w.heap.size (by simp) (by simp)).trans (heap_alloc_new w _);obtain⟨⟨d0,d1,d2,d3,d4,d5,d6,d7,d8,d9,d10,d11,d12⟩,fz⟩:=st_block hb1;clear hex1 hb1 hz1)
                        | (go_at_call 78;refine(HPB.out w1 (HE1.out)).mono ?_;rintro e w2 ⟨rfl,hex2⟩;have HE2:=Lib.hid hex2;have hb2:=(hex2.block w.heap.size hy1 (by simp)).trans ((HE1.out.block w.heap.size (by simp) (by simp)).trans (heap_alloc_new w _));clear d0 d1 d2 d3 d4 d5 d6 d7 d8 d9 d10 d11 d12 fz;obtain⟨⟨d0,d1,d2,d3,d4,d5,d6,d7,d8,d9,d10,d11,d12⟩,fz⟩:=st_block hb2;clear hex2 hb2))
                       have z1:s.kind≤3:=by omega
                       have z1d:decide (s.kind≤3)=true:=decide_eq_true z1
                       have Kz1:=Lib.hid z1d
                       by_cases z2:0 < ln
                       · have z2d:decide (0 < ln)=true:=decide_eq_true z2
                         have Kz2:Hid (decide (0 < s.list.length)=true):=Lib.hid (by rw [←HLN.out];exact z2d)
                         have HK:Hid (checkI s=1):=Lib.hid (by rw [checkB_eq];(simp only [checkB,h1,Ke1.out,Ke3.out,Ke5.out,h3,h4,Kl1.out,Kl2.out,Kl3.out,Kn0.out,Kn1.out,Kp0.out,h6,Kz1.out,Kz2.out]) <;> rfl)
                         go_wp2_with (first
                          | (go_at_call 75;refine(key03_any _ _).mono ?_;rintro e w' ⟨rfl,rfl⟩)
                          | (go_at_call 76;refine(in03_any _ _ _).mono ?_;rintro e w' ⟨rfl,rfl⟩)
                          | (go_at_call 77;refine(HNB.out _).mono ?_;rintro e w1 ⟨rfl,hex1⟩;have HE1:=Lib.hid hex1;have hz1:=hex1.size;simp at hz1;have hy1:w.heap.size < w1.heap.size:=(by omega);have hb1:=(hex1.block w.heap.size (by simp) (by simp)).trans (heap_alloc_new w _);obtain⟨⟨d0,d1,d2,d3,d4,d5,d6,d7,d8,d9,d10,d11,d12⟩,fz⟩:=st_block hb1;clear hex1 hb1 hz1)
                          | (go_at_call 78;refine(HPB.out w1 (HE1.out)).mono ?_;rintro e w2 ⟨rfl,hex2⟩;have HE2:=Lib.hid hex2;have hb2:=(hex2.block w.heap.size hy1 (by simp)).trans ((HE1.out.block w.heap.size (by simp) (by simp)).trans (heap_alloc_new w _));clear d0 d1 d2 d3 d4 d5 d6 d7 d8 d9 d10 d11 d12 fz;obtain⟨⟨d0,d1,d2,d3,d4,d5,d6,d7,d8,d9,d10,d11,d12⟩,fz⟩:=st_block hb2;clear hex2 hb2))
                         go_ret
                         exact⟨by rw [HK.out];rfl,((Ex.new w _).trans HE1.out (by simp) (by simp)).trans HE2.out (by omega) (by simp)⟩
                       · have z2d:decide (0 < ln)=false:=decide_eq_false z2
                         have Kz2:Hid (decide (0 < s.list.length)=false):=Lib.hid (by rw [←HLN.out];exact z2d)
                         by_cases z3:0 < pn
                         · have z3d:decide (0 < pn)=true:=decide_eq_true z3
                           have Kz3:Hid (decide (0 < s.pins.length)=true):=Lib.hid (by rw [←HPN.out];exact z3d)
                           have HK:Hid (checkI s=1):=Lib.hid (by rw [checkB_eq];(simp only [checkB,h1,Ke1.out,Ke3.out,Ke5.out,h3,h4,Kl1.out,Kl2.out,Kl3.out,Kn0.out,Kn1.out,Kp0.out,h6,Kz1.out,Kz2.out,Kz3.out]) <;> rfl)
                           go_wp2_with (first
                            | (go_at_call 75;refine(key03_any _ _).mono ?_;rintro e w' ⟨rfl,rfl⟩)
                            | (go_at_call 76;refine(in03_any _ _ _).mono ?_;rintro e w' ⟨rfl,rfl⟩)
                            | (go_at_call 77;refine(HNB.out _).mono ?_;rintro e w1 ⟨rfl,hex1⟩;have HE1:=Lib.hid hex1;have hz1:=hex1.size;simp at hz1;have hy1:w.heap.size < w1.heap.size:=(by omega);have hb1:=(hex1.block w.heap.size (by simp) (by simp)).trans (heap_alloc_new w _);obtain⟨⟨d0,d1,d2,d3,d4,d5,d6,d7,d8,d9,d10,d11,d12⟩,fz⟩:=st_block hb1;clear hex1 hb1 hz1)
                            | (go_at_call 78;refine(HPB.out w1 (HE1.out)).mono ?_;rintro e w2 ⟨rfl,hex2⟩;have HE2:=Lib.hid hex2;have hb2:=(hex2.block w.heap.size hy1 (by simp)).trans ((HE1.out.block w.heap.size (by simp) (by simp)).trans (heap_alloc_new w _));clear d0 d1 d2 d3 d4 d5 d6 d7 d8 d9 d10 d11 d12 fz;obtain⟨⟨d0,d1,d2,d3,d4,d5,d6,d7,d8,d9,d10,d11,d12⟩,fz⟩:=st_block hb2;clear hex2 hb2))
                           go_ret
                           exact⟨by rw [HK.out];rfl,((Ex.new w _).trans HE1.out (by simp) (by simp)).trans HE2.out (by omega) (by simp)⟩
                         · have z3d:decide (0 < pn)=false:=decide_eq_false z3
                           have Kz3:Hid (decide (0 < s.pins.length)=false):=Lib.hid (by rw [←HPN.out];exact z3d)
                           by_cases z4:s.body= ⟨#[]⟩
                           · obtain⟨z4a,z4b,z4c⟩:=empty_facts z4
                             have Kz4:=Lib.hid (decide_eq_true z4)
                             clear z4
                             have HK:Hid (checkI s=0):=Lib.hid (by rw [checkB_eq];(simp only [checkB,h1,Ke1.out,Ke3.out,Ke5.out,h3,h4,Kl1.out,Kl2.out,Kl3.out,Kn0.out,Kn1.out,Kp0.out,h6,Kz1.out,Kz2.out,Kz3.out,Kz4.out]) <;> rfl)
                             go_wp2_with (first
                              | (go_at_call 75;refine(key03_any _ _).mono ?_;rintro e w' ⟨rfl,rfl⟩)
                              | (go_at_call 76;refine(in03_any _ _ _).mono ?_;rintro e w' ⟨rfl,rfl⟩)
                              | (go_at_call 77;refine(HNB.out _).mono ?_;rintro e w1 ⟨rfl,hex1⟩;have HE1:=Lib.hid hex1;have hz1:=hex1.size;simp at hz1;have hy1:w.heap.size < w1.heap.size:=(by omega);have hb1:=(hex1.block w.heap.size (by simp) (by simp)).trans (heap_alloc_new w _);obtain⟨⟨d0,d1,d2,d3,d4,d5,d6,d7,d8,d9,d10,d11,d12⟩,fz⟩:=st_block hb1;clear hex1 hb1 hz1)
                              | (go_at_call 78;refine(HPB.out w1 (HE1.out)).mono ?_;rintro e w2 ⟨rfl,hex2⟩;have HE2:=Lib.hid hex2;have hb2:=(hex2.block w.heap.size hy1 (by simp)).trans ((HE1.out.block w.heap.size (by simp) (by simp)).trans (heap_alloc_new w _));clear d0 d1 d2 d3 d4 d5 d6 d7 d8 d9 d10 d11 d12 fz;obtain⟨⟨d0,d1,d2,d3,d4,d5,d6,d7,d8,d9,d10,d11,d12⟩,fz⟩:=st_block hb2;clear hex2 hb2))
                             go_ret
                             exact⟨by rw [HK.out];rfl,((Ex.new w _).trans HE1.out (by simp) (by simp)).trans HE2.out (by omega) (by simp)⟩
                           · obtain⟨z4a,z4b,z4c⟩:=nonempty_facts z4
                             have Kz4:=Lib.hid (decide_eq_false z4)
                             clear z4
                             have HK:Hid (checkI s=1):=Lib.hid (by rw [checkB_eq];(simp only [checkB,h1,Ke1.out,Ke3.out,Ke5.out,h3,h4,Kl1.out,Kl2.out,Kl3.out,Kn0.out,Kn1.out,Kp0.out,h6,Kz1.out,Kz2.out,Kz3.out,Kz4.out]) <;> rfl)
                             go_wp2_with (first
                              | (go_at_call 75;refine(key03_any _ _).mono ?_;rintro e w' ⟨rfl,rfl⟩)
                              | (go_at_call 76;refine(in03_any _ _ _).mono ?_;rintro e w' ⟨rfl,rfl⟩)
                              | (go_at_call 77;refine(HNB.out _).mono ?_;rintro e w1 ⟨rfl,hex1⟩;have HE1:=Lib.hid hex1;have hz1:=hex1.size;simp at hz1;have hy1:w.heap.size < w1.heap.size:=(by omega);have hb1:=(hex1.block w.heap.size (by simp) (by simp)).trans (heap_alloc_new w _);obtain⟨⟨d0,d1,d2,d3,d4,d5,d6,d7,d8,d9,d10,d11,d12⟩,fz⟩:=st_block hb1;clear hex1 hb1 hz1)
                              | (go_at_call 78;refine(HPB.out w1 (HE1.out)).mono ?_;rintro e w2 ⟨rfl,hex2⟩;have HE2:=Lib.hid hex2;have hb2:=(hex2.block w.heap.size hy1 (by simp)).trans ((HE1.out.block w.heap.size (by simp) (by simp)).trans (heap_alloc_new w _));clear d0 d1 d2 d3 d4 d5 d6 d7 d8 d9 d10 d11 d12 fz;obtain⟨⟨d0,d1,d2,d3,d4,d5,d6,d7,d8,d9,d10,d11,d12⟩,fz⟩:=st_block hb2;clear hex2 hb2))
                             go_ret
                             exact⟨by rw [HK.out];rfl,((Ex.new w _).trans HE1.out (by simp) (by simp)).trans HE2.out (by omega) (by simp)⟩
                   · obtain⟨p0a,p0b,p0c⟩:=nonempty_facts p0
                     have Kp0:=Lib.hid (decide_eq_false p0)
                     clear p0
                     have HK:Hid (checkI s=1):=Lib.hid (by rw [checkB_eq];(simp only [checkB,h1,Ke1.out,Ke3.out,Ke5.out,h3,h4,Kl1.out,Kl2.out,Kl3.out,Kn0.out,Kn1.out,Kp0.out]) <;> rfl)
                     go_wp2_with (first
                      | (go_at_call 75;refine(key03_any _ _).mono ?_;rintro e w' ⟨rfl,rfl⟩)
                      | (go_at_call 76;refine(in03_any _ _ _).mono ?_;rintro e w' ⟨rfl,rfl⟩)
                      | (go_at_call 77;refine(HNB.out _).mono ?_;rintro e w1 ⟨rfl,hex1⟩;have HE1:=Lib.hid hex1;have hz1:=hex1.size;simp at hz1;have hy1:w.heap.size < w1.heap.size:=(by omega);have hb1:=(hex1.block w.heap.size (by simp) (by simp)).trans (heap_alloc_new w _);obtain⟨⟨d0,d1,d2,d3,d4,d5,d6,d7,d8,d9,d10,d11,d12⟩,fz⟩:=st_block hb1;clear hex1 hb1 hz1)
                      | (go_at_call 78;refine(HPB.out w1 (HE1.out)).mono ?_;rintro e w2 ⟨rfl,hex2⟩;have HE2:=Lib.hid hex2;have hb2:=(hex2.block w.heap.size hy1 (by simp)).trans ((HE1.out.block w.heap.size (by simp) (by simp)).trans (heap_alloc_new w _));clear d0 d1 d2 d3 d4 d5 d6 d7 d8 d9 d10 d11 d12 fz;obtain⟨⟨d0,d1,d2,d3,d4,d5,d6,d7,d8,d9,d10,d11,d12⟩,fz⟩:=st_block hb2;clear hex2 hb2))
                     go_ret
                     exact⟨by rw [HK.out];rfl,(Ex.new w _).trans HE1.out (by simp) (by simp)⟩
                 · have n0d: (s.number == 0)=false:=by simp [n0]
                   have n1:0 < s.number:=by have:=(inB_iff.1 HNUM.out).1;omega
                   have n0e:decide (0 < s.number)=true:=decide_eq_true n1
                   have Kn0:=Lib.hid (decide_eq_false n0)
                   have Kn1:=Lib.hid n0e
                   by_cases p1:s.prev.size=32
                   · have p1d: (((s.prev.size:Nat):Int) != 32)=false:=by simp [p1]
                     have Kp1:=Lib.hid (decide_eq_true p1)
                     clear p1
                     cases h6:pinsB s.pins with
                     | false=>
                       have HK:Hid (checkI s=1):=Lib.hid (by rw [checkB_eq];(simp only [checkB,h1,Ke1.out,Ke3.out,Ke5.out,h3,h4,Kl1.out,Kl2.out,Kl3.out,Kn0.out,Kn1.out,Kp1.out,h6]) <;> rfl)
                       go_wp2_with (first
                        | (go_at_call 75;refine(key03_any _ _).mono ?_;rintro e w' ⟨rfl,rfl⟩)
                        | (go_at_call 76;refine(in03_any _ _ _).mono ?_;rintro e w' ⟨rfl,rfl⟩)
                        | (go_at_call 77;refine(HNB.out _).mono ?_;rintro e w1 ⟨rfl,hex1⟩;have HE1:=Lib.hid hex1;have hz1:=hex1.size;simp at hz1;have hy1:w.heap.size < w1.heap.size:=(by omega);have hb1:=(hex1.block w.heap.size (by simp) (by simp)).trans (heap_alloc_new w _);obtain⟨⟨d0,d1,d2,d3,d4,d5,d6,d7,d8,d9,d10,d11,d12⟩,fz⟩:=st_block hb1;clear hex1 hb1 hz1)
                        | (go_at_call 78;refine(HPB.out w1 (HE1.out)).mono ?_;rintro e w2 ⟨rfl,hex2⟩;have HE2:=Lib.hid hex2;have hb2:=(hex2.block w.heap.size hy1 (by simp)).trans ((HE1.out.block w.heap.size (by simp) (by simp)).trans (heap_alloc_new w _));clear d0 d1 d2 d3 d4 d5 d6 d7 d8 d9 d10 d11 d12 fz;obtain⟨⟨d0,d1,d2,d3,d4,d5,d6,d7,d8,d9,d10,d11,d12⟩,fz⟩:=st_block hb2;clear hex2 hb2))
                       go_ret
                       exact⟨by rw [HK.out];rfl,((Ex.new w _).trans HE1.out (by simp) (by simp)).trans HE2.out (by omega) (by simp)⟩
                     | true=>
                       go_upto_region 13 with(first
                        | (go_at_call 75;refine(key03_any _ _).mono ?_;rintro e w' ⟨rfl,rfl⟩)
                        | (go_at_call 76;refine(in03_any _ _ _).mono ?_;rintro e w' ⟨rfl,rfl⟩)
                        | (go_at_call 77;refine(HNB.out _).mono ?_;rintro e w1 ⟨rfl,hex1⟩;have HE1:=Lib.hid hex1;have hz1:=hex1.size;simp at hz1;have hy1:w.heap.size < w1.heap.size:=(by omega);have hb1:=(hex1.block w.heap.size (by simp) (by simp)).trans (heap_alloc_new w _);obtain⟨⟨d0,d1,d2,d3,d4,d5,d6,d7,d8,d9,d10,d11,d12⟩,fz⟩:=st_block hb1;clear hex1 hb1 hz1)
                        | (go_at_call 78;refine(HPB.out w1 (HE1.out)).mono ?_;rintro e w2 ⟨rfl,hex2⟩;have HE2:=Lib.hid hex2;have hb2:=(hex2.block w.heap.size hy1 (by simp)).trans ((HE1.out.block w.heap.size (by simp) (by simp)).trans (heap_alloc_new w _));clear d0 d1 d2 d3 d4 d5 d6 d7 d8 d9 d10 d11 d12 fz;obtain⟨⟨d0,d1,d2,d3,d4,d5,d6,d7,d8,d9,d10,d11,d12⟩,fz⟩:=st_block hb2;clear hex2 hb2))
                       have z1:s.kind≤3:=by omega
                       have z1d:decide (s.kind≤3)=true:=decide_eq_true z1
                       have Kz1:=Lib.hid z1d
                       by_cases z2:0 < ln
                       · have z2d:decide (0 < ln)=true:=decide_eq_true z2
                         have Kz2:Hid (decide (0 < s.list.length)=true):=Lib.hid (by rw [←HLN.out];exact z2d)
                         have HK:Hid (checkI s=1):=Lib.hid (by rw [checkB_eq];(simp only [checkB,h1,Ke1.out,Ke3.out,Ke5.out,h3,h4,Kl1.out,Kl2.out,Kl3.out,Kn0.out,Kn1.out,Kp1.out,h6,Kz1.out,Kz2.out]) <;> rfl)
                         go_wp2_with (first
                          | (go_at_call 75;refine(key03_any _ _).mono ?_;rintro e w' ⟨rfl,rfl⟩)
                          | (go_at_call 76;refine(in03_any _ _ _).mono ?_;rintro e w' ⟨rfl,rfl⟩)
                          | (go_at_call 77;refine(HNB.out _).mono ?_;rintro e w1 ⟨rfl,hex1⟩;have HE1:=Lib.hid hex1;have hz1:=hex1.size;simp at hz1;have hy1:w.heap.size < w1.heap.size:=(by omega);have hb1:=(hex1.block w.heap.size (by simp) (by simp)).trans (heap_alloc_new w _);obtain⟨⟨d0,d1,d2,d3,d4,d5,d6,d7,d8,d9,d10,d11,d12⟩,fz⟩:=st_block hb1;clear hex1 hb1 hz1)
                          | (go_at_call 78;refine(HPB.out w1 (HE1.out)).mono ?_;rintro e w2 ⟨rfl,hex2⟩;have HE2:=Lib.hid hex2;have hb2:=(hex2.block w.heap.size hy1 (by simp)).trans ((HE1.out.block w.heap.size (by simp) (by simp)).trans (heap_alloc_new w _));clear d0 d1 d2 d3 d4 d5 d6 d7 d8 d9 d10 d11 d12 fz;obtain⟨⟨d0,d1,d2,d3,d4,d5,d6,d7,d8,d9,d10,d11,d12⟩,fz⟩:=st_block hb2;clear hex2 hb2))
                         go_ret
                         exact⟨by rw [HK.out];rfl,((Ex.new w _).trans HE1.out (by simp) (by simp)).trans HE2.out (by omega) (by simp)⟩
                       · have z2d:decide (0 < ln)=false:=decide_eq_false z2
                         have Kz2:Hid (decide (0 < s.list.length)=false):=Lib.hid (by rw [←HLN.out];exact z2d)
                         by_cases z3:0 < pn
                         · have z3d:decide (0 < pn)=true:=decide_eq_true z3
                           have Kz3:Hid (decide (0 < s.pins.length)=true):=Lib.hid (by rw [←HPN.out];exact z3d)
                           have HK:Hid (checkI s=1):=Lib.hid (by rw [checkB_eq];(simp only [checkB,h1,Ke1.out,Ke3.out,Ke5.out,h3,h4,Kl1.out,Kl2.out,Kl3.out,Kn0.out,Kn1.out,Kp1.out,h6,Kz1.out,Kz2.out,Kz3.out]) <;> rfl)
                           go_wp2_with (first
                            | (go_at_call 75;refine(key03_any _ _).mono ?_;rintro e w' ⟨rfl,rfl⟩)
                            | (go_at_call 76;refine(in03_any _ _ _).mono ?_;rintro e w' ⟨rfl,rfl⟩)
                            | (go_at_call 77;refine(HNB.out _).mono ?_;rintro e w1 ⟨rfl,hex1⟩;have HE1:=Lib.hid hex1;have hz1:=hex1.size;simp at hz1;have hy1:w.heap.size < w1.heap.size:=(by omega);have hb1:=(hex1.block w.heap.size (by simp) (by simp)).trans (heap_alloc_new w _);obtain⟨⟨d0,d1,d2,d3,d4,d5,d6,d7,d8,d9,d10,d11,d12⟩,fz⟩:=st_block hb1;clear hex1 hb1 hz1)
                            | (go_at_call 78;refine(HPB.out w1 (HE1.out)).mono ?_;rintro e w2 ⟨rfl,hex2⟩;have HE2:=Lib.hid hex2;have hb2:=(hex2.block w.heap.size hy1 (by simp)).trans ((HE1.out.block w.heap.size (by simp) (by simp)).trans (heap_alloc_new w _));clear d0 d1 d2 d3 d4 d5 d6 d7 d8 d9 d10 d11 d12 fz;obtain⟨⟨d0,d1,d2,d3,d4,d5,d6,d7,d8,d9,d10,d11,d12⟩,fz⟩:=st_block hb2;clear hex2 hb2))
                           go_ret
                           exact⟨by rw [HK.out];rfl,((Ex.new w _).trans HE1.out (by simp) (by simp)).trans HE2.out (by omega) (by simp)⟩
                         · have z3d:decide (0 < pn)=false:=decide_eq_false z3
                           have Kz3:Hid (decide (0 < s.pins.length)=false):=Lib.hid (by rw [←HPN.out];exact z3d)
                           by_cases z4:s.body= ⟨#[]⟩
                           · obtain⟨z4a,z4b,z4c⟩:=empty_facts z4
                             have Kz4:=Lib.hid (decide_eq_true z4)
                             clear z4
                             have HK:Hid (checkI s=0):=Lib.hid (by rw [checkB_eq];(simp only [checkB,h1,Ke1.out,Ke3.out,Ke5.out,h3,h4,Kl1.out,Kl2.out,Kl3.out,Kn0.out,Kn1.out,Kp1.out,h6,Kz1.out,Kz2.out,Kz3.out,Kz4.out]) <;> rfl)
                             go_wp2_with (first
                              | (go_at_call 75;refine(key03_any _ _).mono ?_;rintro e w' ⟨rfl,rfl⟩)
                              | (go_at_call 76;refine(in03_any _ _ _).mono ?_;rintro e w' ⟨rfl,rfl⟩)
                              | (go_at_call 77;refine(HNB.out _).mono ?_;rintro e w1 ⟨rfl,hex1⟩;have HE1:=Lib.hid hex1;have hz1:=hex1.size;simp at hz1;have hy1:w.heap.size < w1.heap.size:=(by omega);have hb1:=(hex1.block w.heap.size (by simp) (by simp)).trans (heap_alloc_new w _);obtain⟨⟨d0,d1,d2,d3,d4,d5,d6,d7,d8,d9,d10,d11,d12⟩,fz⟩:=st_block hb1;clear hex1 hb1 hz1)
                              | (go_at_call 78;refine(HPB.out w1 (HE1.out)).mono ?_;rintro e w2 ⟨rfl,hex2⟩;have HE2:=Lib.hid hex2;have hb2:=(hex2.block w.heap.size hy1 (by simp)).trans ((HE1.out.block w.heap.size (by simp) (by simp)).trans (heap_alloc_new w _));clear d0 d1 d2 d3 d4 d5 d6 d7 d8 d9 d10 d11 d12 fz;obtain⟨⟨d0,d1,d2,d3,d4,d5,d6,d7,d8,d9,d10,d11,d12⟩,fz⟩:=st_block hb2;clear hex2 hb2))
                             go_ret
                             exact⟨by rw [HK.out];rfl,((Ex.new w _).trans HE1.out (by simp) (by simp)).trans HE2.out (by omega) (by simp)⟩
                           · obtain⟨z4a,z4b,z4c⟩:=nonempty_facts z4
                             have Kz4:=Lib.hid (decide_eq_false z4)
                             clear z4
                             have HK:Hid (checkI s=1):=Lib.hid (by rw [checkB_eq];(simp only [checkB,h1,Ke1.out,Ke3.out,Ke5.out,h3,h4,Kl1.out,Kl2.out,Kl3.out,Kn0.out,Kn1.out,Kp1.out,h6,Kz1.out,Kz2.out,Kz3.out,Kz4.out]) <;> rfl)
                             go_wp2_with (first
                              | (go_at_call 75;refine(key03_any _ _).mono ?_;rintro e w' ⟨rfl,rfl⟩)
                              | (go_at_call 76;refine(in03_any _ _ _).mono ?_;rintro e w' ⟨rfl,rfl⟩)
                              | (go_at_call 77;refine(HNB.out _).mono ?_;rintro e w1 ⟨rfl,hex1⟩;have HE1:=Lib.hid hex1;have hz1:=hex1.size;simp at hz1;have hy1:w.heap.size < w1.heap.size:=(by omega);have hb1:=(hex1.block w.heap.size (by simp) (by simp)).trans (heap_alloc_new w _);obtain⟨⟨d0,d1,d2,d3,d4,d5,d6,d7,d8,d9,d10,d11,d12⟩,fz⟩:=st_block hb1;clear hex1 hb1 hz1)
                              | (go_at_call 78;refine(HPB.out w1 (HE1.out)).mono ?_;rintro e w2 ⟨rfl,hex2⟩;have HE2:=Lib.hid hex2;have hb2:=(hex2.block w.heap.size hy1 (by simp)).trans ((HE1.out.block w.heap.size (by simp) (by simp)).trans (heap_alloc_new w _));clear d0 d1 d2 d3 d4 d5 d6 d7 d8 d9 d10 d11 d12 fz;obtain⟨⟨d0,d1,d2,d3,d4,d5,d6,d7,d8,d9,d10,d11,d12⟩,fz⟩:=st_block hb2;clear hex2 hb2))
                             go_ret
                             exact⟨by rw [HK.out];rfl,((Ex.new w _).trans HE1.out (by simp) (by simp)).trans HE2.out (by omega) (by simp)⟩
                   · have p1d: (((s.prev.size:Nat):Int) != 32)=true:=by simp;omega
                     have Kp1:=Lib.hid (decide_eq_false p1)
                     clear p1
                     have HK:Hid (checkI s=1):=Lib.hid (by rw [checkB_eq];(simp only [checkB,h1,Ke1.out,Ke3.out,Ke5.out,h3,h4,Kl1.out,Kl2.out,Kl3.out,Kn0.out,Kn1.out,Kp1.out]) <;> rfl)
                     go_wp2_with (first
                      | (go_at_call 75;refine(key03_any _ _).mono ?_;rintro e w' ⟨rfl,rfl⟩)
                      | (go_at_call 76;refine(in03_any _ _ _).mono ?_;rintro e w' ⟨rfl,rfl⟩)
                      | (go_at_call 77;refine(HNB.out _).mono ?_;rintro e w1 ⟨rfl,hex1⟩;have HE1:=Lib.hid hex1;have hz1:=hex1.size;simp at hz1;have hy1:w.heap.size < w1.heap.size:=(by omega);have hb1:=(hex1.block w.heap.size (by simp) (by simp)).trans (heap_alloc_new w _);obtain⟨⟨d0,d1,d2,d3,d4,d5,d6,d7,d8,d9,d10,d11,d12⟩,fz⟩:=st_block hb1;clear hex1 hb1 hz1)
                      | (go_at_call 78;refine(HPB.out w1 (HE1.out)).mono ?_;rintro e w2 ⟨rfl,hex2⟩;have HE2:=Lib.hid hex2;have hb2:=(hex2.block w.heap.size hy1 (by simp)).trans ((HE1.out.block w.heap.size (by simp) (by simp)).trans (heap_alloc_new w _));clear d0 d1 d2 d3 d4 d5 d6 d7 d8 d9 d10 d11 d12 fz;obtain⟨⟨d0,d1,d2,d3,d4,d5,d6,d7,d8,d9,d10,d11,d12⟩,fz⟩:=st_block hb2;clear hex2 hb2))
                     go_ret
                     exact⟨by rw [HK.out];rfl,(Ex.new w _).trans HE1.out (by simp) (by simp)⟩
end Go.Proofs.YtflhidfclfkjlaaGreat

/- ref03.Same: contracts by the first field that differs, no statement of the seat. -/
import Derived.Test.YtflhidfclfkjlaaGreatMg00
namespace Go.Proofs.YtflhidfclfkjlaaGreat
open Go.RowKit Go.Sort
set_option maxHeartbeats 2000000 in
set_option maxRecDepth 100000 in
theorem same_ne_seal {P Q:Nat→Prop} (s t:St) (lo lo' po po' :Option Addr) (ln lc ln' lc' pn pc pn' pc' :Nat) (w:World) (hx1:Sl intRep P w (.slice lo ln lc) s.list) (hx2:Sl pinRep P w (.slice po pn pc) s.pins) (hy1:Sl intRep Q w (.slice lo' ln' lc') t.list) (hy2:Sl pinRep Q w (.slice po' pn' pc') t.pins) (hm:s.list.length≤9223372036854775807∧s.pins.length≤9223372036854775807) (hauthor:s.author=t.author) (hnumber:s.number=t.number) (hprev:s.prev=t.prev) (htime:s.time=t.time) (hkind:s.kind=t.kind) (ha:s.a=t.a) (hb:s.b=t.b) (hc:s.c=t.c) (hlist:s.list=t.list) (hpins:s.pins=t.pins) (hbody:s.body=t.body) (hseal : ¬(s.key=t.key∧s.dig=t.dig)) :
 Calls Tryz.prog 110 #[.agg #[.int .i64 s.author,.int .i64 s.number,.string s.prev,.int .i64 s.time,.int .i64 s.kind,.int .i64 s.a,.int .i64 s.b,.int .i64 s.c,.slice lo ln lc,.slice po pn pc,.string s.body,.int .i64 s.key,.string s.dig],.agg #[.int .i64 t.author,.int .i64 t.number,.string t.prev,.int .i64 t.time,.int .i64 t.kind,.int .i64 t.a,.int .i64 t.b,.int .i64 t.c,.slice lo' ln' lc',.slice po' pn' pc',.string t.body,.int .i64 t.key,.string t.dig]] w fun e w'=>e=.returned (.bool false)∧Ex w.heap.size none w w':=by
 have HX1:=Lib.hid hx1
 have HX2:=Lib.hid hx2
 have HY1:=Lib.hid hy1
 have HY2:=Lib.hid hy2
 have HM:=Lib.hid hm
 clear hx1 hx2 hy1 hy2 hm
 have dauthor: (s.author == t.author)=true:=by simpa using hauthor
 clear hauthor
 have dnumber: (s.number == t.number)=true:=by simpa using hnumber
 clear hnumber
 obtain⟨dprev,dprev2⟩:=bytes_beq hprev
 clear hprev
 have dtime: (s.time == t.time)=true:=by simpa using htime
 clear htime
 have dkind: (s.kind == t.kind)=true:=by simpa using hkind
 clear hkind
 have da: (s.a == t.a)=true:=by simpa using ha
 clear ha
 have db: (s.b == t.b)=true:=by simpa using hb
 clear hb
 have dc: (s.c == t.c)=true:=by simpa using hc
 clear hc
 replace hlist:=Lib.hid hlist
 replace hpins:=Lib.hid hpins
 obtain⟨dbody,dbody2⟩:=bytes_beq hbody
 clear hbody
 have hsl:=seal_eql s.key t.key s.dig t.dig
 have hdx: (decide (s.key=t.key) && decide (s.dig=t.dig))=false:=by
  rw [Bool.eq_false_iff];intro h;simp only [Bool.and_eq_true,decide_eq_true_eq] at h;exact hseal h
 rw [hdx] at hsl
 clear hseal hdx
 go_enter Tryz.func110,Tryz.ntmps110
 go_wp2_with fail
 refine(asB (same03Ints_any _ _ s.list t.list _ (sl_ints (HX1.out.keep (by decide) (fun b _ hb=>(ex_two _ _).block b hb (by simp)))) (sl_ints (HY1.out.keep (by decide) (fun b _ hb=>(ex_two _ _).block b hb (by simp)))) HM.out.1) (b:=true) (by have:=hlist.out;simp [this])).mono ?_
 rintro e w1 ⟨rfl,hex1⟩
 have hE1:Ex w.heap.size none w w1:=(ex_two _ _).trans (hex1.mono (by first | exact(ex_two _ _).size | simp)) (Nat.le_refl _) (by simp)
 have hc1:=fun(b o:Nat) (h:b < _)=>hex1.below.cell (p:=⟨b,o,none⟩) h
 have hz1:=hex1.size
 simp at hz1
 have hy1:w.heap.size < w1.heap.size:=by omega
 have hx1:w.heap.size+1 < w1.heap.size:=by omega
 go_wp2_with fail
 refine(asB (same03Pins_any _ _ s.pins t.pins _ (HX2.out.keep (by decide) (fun b _ hb=>(hE1).block b hb (by simp))) (HY2.out.keep (by decide) (fun b _ hb=>(hE1).block b hb (by simp))) HM.out.2) (b:=true) (by have:=hpins.out;simp [this])).mono ?_
 rintro e w2 ⟨rfl,hex2⟩
 have hE2:Ex w.heap.size none w w2:=(hE1).trans (hex2.mono (by first | exact(hE1).size | simp)) (Nat.le_refl _) (by simp)
 have hc2:=fun(b o:Nat) (h:b < _)=>hex2.below.cell (p:=⟨b,o,none⟩) h
 have hz2:=hex2.size
 have hy2:w.heap.size < w2.heap.size:=by omega
 have hx2:w.heap.size+1 < w2.heap.size:=by omega
 go_wp2
 go_ret
 exact⟨rfl,hE2⟩
set_option maxHeartbeats 2000000 in
set_option maxRecDepth 100000 in
theorem same_eq {P Q:Nat→Prop} (s t:St) (lo lo' po po' :Option Addr) (ln lc ln' lc' pn pc pn' pc' :Nat) (w:World) (hx1:Sl intRep P w (.slice lo ln lc) s.list) (hx2:Sl pinRep P w (.slice po pn pc) s.pins) (hy1:Sl intRep Q w (.slice lo' ln' lc') t.list) (hy2:Sl pinRep Q w (.slice po' pn' pc') t.pins) (hm:s.list.length≤9223372036854775807∧s.pins.length≤9223372036854775807) (hauthor:s.author=t.author) (hnumber:s.number=t.number) (hprev:s.prev=t.prev) (htime:s.time=t.time) (hkind:s.kind=t.kind) (ha:s.a=t.a) (hb:s.b=t.b) (hc:s.c=t.c) (hlist:s.list=t.list) (hpins:s.pins=t.pins) (hbody:s.body=t.body) (hseal: (s.key=t.key∧s.dig=t.dig)) :
 Calls Tryz.prog 110 #[.agg #[.int .i64 s.author,.int .i64 s.number,.string s.prev,.int .i64 s.time,.int .i64 s.kind,.int .i64 s.a,.int .i64 s.b,.int .i64 s.c,.slice lo ln lc,.slice po pn pc,.string s.body,.int .i64 s.key,.string s.dig],.agg #[.int .i64 t.author,.int .i64 t.number,.string t.prev,.int .i64 t.time,.int .i64 t.kind,.int .i64 t.a,.int .i64 t.b,.int .i64 t.c,.slice lo' ln' lc',.slice po' pn' pc',.string t.body,.int .i64 t.key,.string t.dig]] w fun e w'=>e=.returned (.bool true)∧Ex w.heap.size none w w':=by
 have HX1:=Lib.hid hx1
 have HX2:=Lib.hid hx2
 have HY1:=Lib.hid hy1
 have HY2:=Lib.hid hy2
 have HM:=Lib.hid hm
 clear hx1 hx2 hy1 hy2 hm
 have dauthor: (s.author == t.author)=true:=by simpa using hauthor
 clear hauthor
 have dnumber: (s.number == t.number)=true:=by simpa using hnumber
 clear hnumber
 obtain⟨dprev,dprev2⟩:=bytes_beq hprev
 clear hprev
 have dtime: (s.time == t.time)=true:=by simpa using htime
 clear htime
 have dkind: (s.kind == t.kind)=true:=by simpa using hkind
 clear hkind
 have da: (s.a == t.a)=true:=by simpa using ha
 clear ha
 have db: (s.b == t.b)=true:=by simpa using hb
 clear hb
 have dc: (s.c == t.c)=true:=by simpa using hc
 clear hc
 replace hlist:=Lib.hid hlist
 replace hpins:=Lib.hid hpins
 obtain⟨dbody,dbody2⟩:=bytes_beq hbody
 clear hbody
 have hsl:=seal_eql s.key t.key s.dig t.dig
 have hdx: (decide (s.key=t.key) && decide (s.dig=t.dig))=true:=by
  simp [hseal.1,hseal.2]
 rw [hdx] at hsl
 clear hseal hdx
 go_enter Tryz.func110,Tryz.ntmps110
 go_wp2_with fail
 refine(asB (same03Ints_any _ _ s.list t.list _ (sl_ints (HX1.out.keep (by decide) (fun b _ hb=>(ex_two _ _).block b hb (by simp)))) (sl_ints (HY1.out.keep (by decide) (fun b _ hb=>(ex_two _ _).block b hb (by simp)))) HM.out.1) (b:=true) (by have:=hlist.out;simp [this])).mono ?_
 rintro e w1 ⟨rfl,hex1⟩
 have hE1:Ex w.heap.size none w w1:=(ex_two _ _).trans (hex1.mono (by first | exact(ex_two _ _).size | simp)) (Nat.le_refl _) (by simp)
 have hc1:=fun(b o:Nat) (h:b < _)=>hex1.below.cell (p:=⟨b,o,none⟩) h
 have hz1:=hex1.size
 simp at hz1
 have hy1:w.heap.size < w1.heap.size:=by omega
 have hx1:w.heap.size+1 < w1.heap.size:=by omega
 go_wp2_with fail
 refine(asB (same03Pins_any _ _ s.pins t.pins _ (HX2.out.keep (by decide) (fun b _ hb=>(hE1).block b hb (by simp))) (HY2.out.keep (by decide) (fun b _ hb=>(hE1).block b hb (by simp))) HM.out.2) (b:=true) (by have:=hpins.out;simp [this])).mono ?_
 rintro e w2 ⟨rfl,hex2⟩
 have hE2:Ex w.heap.size none w w2:=(hE1).trans (hex2.mono (by first | exact(hE1).size | simp)) (Nat.le_refl _) (by simp)
 have hc2:=fun(b o:Nat) (h:b < _)=>hex2.below.cell (p:=⟨b,o,none⟩) h
 have hz2:=hex2.size
 have hy2:w.heap.size < w2.heap.size:=by omega
 have hx2:w.heap.size+1 < w2.heap.size:=by omega
 go_wp2
 go_ret
 exact⟨rfl,hE2⟩
end Go.Proofs.YtflhidfclfkjlaaGreat

/- ref03.Same: contracts by the first field that differs, no statement of the seat. -/
import Derived.Test.YtflhidfclfkjlaaGreatMg00
namespace Go.Proofs.YtflhidfclfkjlaaGreat
open Go.RowKit Go.Sort
set_option maxHeartbeats 2000000 in
set_option maxRecDepth 100000 in
theorem same_ne_author {P Q:Nat→Prop} (s t:St) (lo lo' po po' :Option Addr) (ln lc ln' lc' pn pc pn' pc' :Nat) (w:World) (hx1:Sl intRep P w (.slice lo ln lc) s.list) (hx2:Sl pinRep P w (.slice po pn pc) s.pins) (hy1:Sl intRep Q w (.slice lo' ln' lc') t.list) (hy2:Sl pinRep Q w (.slice po' pn' pc') t.pins) (hm:s.list.length≤9223372036854775807∧s.pins.length≤9223372036854775807) (hauthor : ¬s.author=t.author) :
 Calls Tryz.prog 110 #[.agg #[.int .i64 s.author,.int .i64 s.number,.string s.prev,.int .i64 s.time,.int .i64 s.kind,.int .i64 s.a,.int .i64 s.b,.int .i64 s.c,.slice lo ln lc,.slice po pn pc,.string s.body,.int .i64 s.key,.string s.dig],.agg #[.int .i64 t.author,.int .i64 t.number,.string t.prev,.int .i64 t.time,.int .i64 t.kind,.int .i64 t.a,.int .i64 t.b,.int .i64 t.c,.slice lo' ln' lc',.slice po' pn' pc',.string t.body,.int .i64 t.key,.string t.dig]] w fun e w'=>e=.returned (.bool false)∧Ex w.heap.size none w w':=by
 have HX1:=Lib.hid hx1
 have HX2:=Lib.hid hx2
 have HY1:=Lib.hid hy1
 have HY2:=Lib.hid hy2
 have HM:=Lib.hid hm
 clear hx1 hx2 hy1 hy2 hm
 have dauthor: (s.author == t.author)=false:=by simpa using hauthor
 clear hauthor
 go_enter Tryz.func110,Tryz.ntmps110
 go_wp2
 go_ret
 exact⟨rfl,ex_two _ _⟩
set_option maxHeartbeats 2000000 in
set_option maxRecDepth 100000 in
theorem same_ne_number {P Q:Nat→Prop} (s t:St) (lo lo' po po' :Option Addr) (ln lc ln' lc' pn pc pn' pc' :Nat) (w:World) (hx1:Sl intRep P w (.slice lo ln lc) s.list) (hx2:Sl pinRep P w (.slice po pn pc) s.pins) (hy1:Sl intRep Q w (.slice lo' ln' lc') t.list) (hy2:Sl pinRep Q w (.slice po' pn' pc') t.pins) (hm:s.list.length≤9223372036854775807∧s.pins.length≤9223372036854775807) (hauthor:s.author=t.author) (hnumber : ¬s.number=t.number) :
 Calls Tryz.prog 110 #[.agg #[.int .i64 s.author,.int .i64 s.number,.string s.prev,.int .i64 s.time,.int .i64 s.kind,.int .i64 s.a,.int .i64 s.b,.int .i64 s.c,.slice lo ln lc,.slice po pn pc,.string s.body,.int .i64 s.key,.string s.dig],.agg #[.int .i64 t.author,.int .i64 t.number,.string t.prev,.int .i64 t.time,.int .i64 t.kind,.int .i64 t.a,.int .i64 t.b,.int .i64 t.c,.slice lo' ln' lc',.slice po' pn' pc',.string t.body,.int .i64 t.key,.string t.dig]] w fun e w'=>e=.returned (.bool false)∧Ex w.heap.size none w w':=by
 have HX1:=Lib.hid hx1
 have HX2:=Lib.hid hx2
 have HY1:=Lib.hid hy1
 have HY2:=Lib.hid hy2
 have HM:=Lib.hid hm
 clear hx1 hx2 hy1 hy2 hm
 have dauthor: (s.author == t.author)=true:=by simpa using hauthor
 clear hauthor
 have dnumber: (s.number == t.number)=false:=by simpa using hnumber
 clear hnumber
 go_enter Tryz.func110,Tryz.ntmps110
 go_wp2
 go_ret
 exact⟨rfl,ex_two _ _⟩
set_option maxHeartbeats 2000000 in
set_option maxRecDepth 100000 in
theorem same_ne_prev {P Q:Nat→Prop} (s t:St) (lo lo' po po' :Option Addr) (ln lc ln' lc' pn pc pn' pc' :Nat) (w:World) (hx1:Sl intRep P w (.slice lo ln lc) s.list) (hx2:Sl pinRep P w (.slice po pn pc) s.pins) (hy1:Sl intRep Q w (.slice lo' ln' lc') t.list) (hy2:Sl pinRep Q w (.slice po' pn' pc') t.pins) (hm:s.list.length≤9223372036854775807∧s.pins.length≤9223372036854775807) (hauthor:s.author=t.author) (hnumber:s.number=t.number) (hprev : ¬s.prev=t.prev) :
 Calls Tryz.prog 110 #[.agg #[.int .i64 s.author,.int .i64 s.number,.string s.prev,.int .i64 s.time,.int .i64 s.kind,.int .i64 s.a,.int .i64 s.b,.int .i64 s.c,.slice lo ln lc,.slice po pn pc,.string s.body,.int .i64 s.key,.string s.dig],.agg #[.int .i64 t.author,.int .i64 t.number,.string t.prev,.int .i64 t.time,.int .i64 t.kind,.int .i64 t.a,.int .i64 t.b,.int .i64 t.c,.slice lo' ln' lc',.slice po' pn' pc',.string t.body,.int .i64 t.key,.string t.dig]] w fun e w'=>e=.returned (.bool false)∧Ex w.heap.size none w w':=by
 have HX1:=Lib.hid hx1
 have HX2:=Lib.hid hx2
 have HY1:=Lib.hid hy1
 have HY2:=Lib.hid hy2
 have HM:=Lib.hid hm
 clear hx1 hx2 hy1 hy2 hm
 have dauthor: (s.author == t.author)=true:=by simpa using hauthor
 clear hauthor
 have dnumber: (s.number == t.number)=true:=by simpa using hnumber
 clear hnumber
 obtain⟨dprev,dprev2⟩:=bytes_nbeq hprev
 clear hprev
 go_enter Tryz.func110,Tryz.ntmps110
 go_wp2
 go_ret
 exact⟨rfl,ex_two _ _⟩
set_option maxHeartbeats 2000000 in
set_option maxRecDepth 100000 in
theorem same_ne_time {P Q:Nat→Prop} (s t:St) (lo lo' po po' :Option Addr) (ln lc ln' lc' pn pc pn' pc' :Nat) (w:World) (hx1:Sl intRep P w (.slice lo ln lc) s.list) (hx2:Sl pinRep P w (.slice po pn pc) s.pins) (hy1:Sl intRep Q w (.slice lo' ln' lc') t.list) (hy2:Sl pinRep Q w (.slice po' pn' pc') t.pins) (hm:s.list.length≤9223372036854775807∧s.pins.length≤9223372036854775807) (hauthor:s.author=t.author) (hnumber:s.number=t.number) (hprev:s.prev=t.prev) (htime : ¬s.time=t.time) :
 Calls Tryz.prog 110 #[.agg #[.int .i64 s.author,.int .i64 s.number,.string s.prev,.int .i64 s.time,.int .i64 s.kind,.int .i64 s.a,.int .i64 s.b,.int .i64 s.c,.slice lo ln lc,.slice po pn pc,.string s.body,.int .i64 s.key,.string s.dig],.agg #[.int .i64 t.author,.int .i64 t.number,.string t.prev,.int .i64 t.time,.int .i64 t.kind,.int .i64 t.a,.int .i64 t.b,.int .i64 t.c,.slice lo' ln' lc',.slice po' pn' pc',.string t.body,.int .i64 t.key,.string t.dig]] w fun e w'=>e=.returned (.bool false)∧Ex w.heap.size none w w':=by
 have HX1:=Lib.hid hx1
 have HX2:=Lib.hid hx2
 have HY1:=Lib.hid hy1
 have HY2:=Lib.hid hy2
 have HM:=Lib.hid hm
 clear hx1 hx2 hy1 hy2 hm
 have dauthor: (s.author == t.author)=true:=by simpa using hauthor
 clear hauthor
 have dnumber: (s.number == t.number)=true:=by simpa using hnumber
 clear hnumber
 obtain⟨dprev,dprev2⟩:=bytes_beq hprev
 clear hprev
 have dtime: (s.time == t.time)=false:=by simpa using htime
 clear htime
 go_enter Tryz.func110,Tryz.ntmps110
 go_wp2
 go_ret
 exact⟨rfl,ex_two _ _⟩
set_option maxHeartbeats 2000000 in
set_option maxRecDepth 100000 in
theorem same_ne_kind {P Q:Nat→Prop} (s t:St) (lo lo' po po' :Option Addr) (ln lc ln' lc' pn pc pn' pc' :Nat) (w:World) (hx1:Sl intRep P w (.slice lo ln lc) s.list) (hx2:Sl pinRep P w (.slice po pn pc) s.pins) (hy1:Sl intRep Q w (.slice lo' ln' lc') t.list) (hy2:Sl pinRep Q w (.slice po' pn' pc') t.pins) (hm:s.list.length≤9223372036854775807∧s.pins.length≤9223372036854775807) (hauthor:s.author=t.author) (hnumber:s.number=t.number) (hprev:s.prev=t.prev) (htime:s.time=t.time) (hkind : ¬s.kind=t.kind) :
 Calls Tryz.prog 110 #[.agg #[.int .i64 s.author,.int .i64 s.number,.string s.prev,.int .i64 s.time,.int .i64 s.kind,.int .i64 s.a,.int .i64 s.b,.int .i64 s.c,.slice lo ln lc,.slice po pn pc,.string s.body,.int .i64 s.key,.string s.dig],.agg #[.int .i64 t.author,.int .i64 t.number,.string t.prev,.int .i64 t.time,.int .i64 t.kind,.int .i64 t.a,.int .i64 t.b,.int .i64 t.c,.slice lo' ln' lc',.slice po' pn' pc',.string t.body,.int .i64 t.key,.string t.dig]] w fun e w'=>e=.returned (.bool false)∧Ex w.heap.size none w w':=by
 have HX1:=Lib.hid hx1
 have HX2:=Lib.hid hx2
 have HY1:=Lib.hid hy1
 have HY2:=Lib.hid hy2
 have HM:=Lib.hid hm
 clear hx1 hx2 hy1 hy2 hm
 have dauthor: (s.author == t.author)=true:=by simpa using hauthor
 clear hauthor
 have dnumber: (s.number == t.number)=true:=by simpa using hnumber
 clear hnumber
 obtain⟨dprev,dprev2⟩:=bytes_beq hprev
 clear hprev
 have dtime: (s.time == t.time)=true:=by simpa using htime
 clear htime
 have dkind: (s.kind == t.kind)=false:=by simpa using hkind
 clear hkind
 go_enter Tryz.func110,Tryz.ntmps110
 go_wp2
 go_ret
 exact⟨rfl,ex_two _ _⟩
end Go.Proofs.YtflhidfclfkjlaaGreat

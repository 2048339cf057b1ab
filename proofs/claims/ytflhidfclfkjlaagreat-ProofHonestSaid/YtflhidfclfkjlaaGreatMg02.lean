/- The library's slices.SortFunc at trustflow/api.Case: its laying by the shelf, in plain words. No statement of the seat. | What the library's CompactFunc at trustflow/api.Case leans on of a program: so that its walks may be made over whatever program and number of cells. No statement of the seat. | slices.Compact at trustflow/api.Case, over whatever program that bears it: a contract, no statement of the seat. | A whole row of cells: not frozen; set cell by cell. No statement of the seat. | A region that draws its order, whose first operations are quiet in a class of worlds and whose last ones stand in one order: one walk of the text's order. For whatever program; no statement of the seat. | A region that draws its order, by what each of its operations establishes out of what it waits for: one proof an operation, whatever the order. For whatever program; no statement of the seat. | A region that draws its order, its operations' facts as a list: each fact stays where nothing that was there is turned. For whatever program; no statement of the seat. | Runs of a row in blocks, as the library's stable sort makes them longer: plain laws. No program in sight. | Behind a head that is done: quiet operations in whatever order, then those that stand in one order. For whatever program; no statement of the seat. | mill.Mod: contracts, no statement of the seat. | Some: contracts, no statement of the seat. | mill.Keys: contracts, no statement of the seat. | ref24.Has: contracts, no statement of the seat. | Join, Minus: contracts, no statement of the seat. | Minus: a contract, no statement of the seat. -/
import Derived.Shelf.SlSortCmp.WholeK
import Derived.Shelf.SlSortCmp.NoneTotal
import Derived.Test.YtflhidfclfkjlaaGreatRows
import Derived.Test.YtflhidfclfkjlaaGreatMg00
import Derived.Test.YtflhidfclfkjlaaGreatMg01
import Derived.StillTail
import Derived.Sort.LotA
namespace Go.Proofs
open Go.Shelf
def Tryz.pdqCs_ren:Go.Shelf.Ren:=⟨fun | 6=>92 | 15=>90 | 14=>127 | 28=>125 | 29=>126 | 20=>144 | 21=>145 | 22=>146 | 23=>147 | 24=>148 | 25=>149 | 26=>150 | 27=>151 | 46=>165 | 47=>140 | 48=>141 | 49=>166 | 50=>167 | 57=>171 | n=>n,fun | 22=>32 | 24=>38 | 25=>130 | 3=>3 | 39=>126 | 0=>0 | 53=>143 | 55=>145 | 4=>4 | 46=>153 | 45=>152 | 50=>157 | 5=>5 | 9=>9 | 66=>172 | 70=>176 | 76=>191 | 77=>192 | n=>n,fun | n=>n⟩
theorem Tryz.pdqCs:Go.Proofs.SlLaysF0.n6 Tryz.prog Tryz.pdqCs_ren:={
 mixed:=by kernel_rfl
 f6:=⟨Tryz.f92.name,by decide,Tryz.func92.trans (congrArg some (by kernel_rfl))⟩
 f14:=⟨Tryz.f127.name,by decide,Tryz.func127.trans (congrArg some (by kernel_rfl))⟩
 f15:=Tryz.func90.trans (congrArg some (by kernel_rfl))
 f20:=⟨Tryz.f144.name,by decide,Tryz.func144.trans (congrArg some (by kernel_rfl))⟩
 f21:=⟨Tryz.f145.name,by decide,Tryz.func145.trans (congrArg some (by kernel_rfl))⟩
 f22:=⟨Tryz.f146.name,by decide,Tryz.func146.trans (congrArg some (by kernel_rfl))⟩
 f23:=⟨Tryz.f147.name,by decide,Tryz.func147.trans (congrArg some (by kernel_rfl))⟩
 f24:=⟨Tryz.f148.name,by decide,Tryz.func148.trans (congrArg some (by kernel_rfl))⟩
 f25:=⟨Tryz.f149.name,by decide,Tryz.func149.trans (congrArg some (by kernel_rfl))⟩
 f26:=⟨Tryz.f150.name,by decide,Tryz.func150.trans (congrArg some (by kernel_rfl))⟩
 f27:=⟨Tryz.f151.name,by decide,Tryz.func151.trans (congrArg some (by kernel_rfl))⟩
 f28:=Tryz.func125.trans (congrArg some (by kernel_rfl))
 f29:=Tryz.func126.trans (congrArg some (by kernel_rfl))
 f46:=⟨Tryz.f165.name,by decide,Tryz.func165.trans (congrArg some (by kernel_rfl))⟩
 f47:=Tryz.func140.trans (congrArg some (by kernel_rfl))
 f48:=Tryz.func141.trans (congrArg some (by kernel_rfl))
 f49:=⟨Tryz.f166.name,by decide,Tryz.func166.trans (congrArg some (by kernel_rfl))⟩
 f50:=⟨Tryz.f167.name,by decide,Tryz.func167.trans (congrArg some (by kernel_rfl))⟩
 f57:=⟨Tryz.f171.name,by decide,Tryz.func171.trans (congrArg some (by kernel_rfl))⟩
 t0:=Tryz.underlying0
 a0:=Tryz.isAgg0
 z0:=Tryz.sizeOf0
 v0:=Tryz.zeroValue0
 t3:=Tryz.underlying3
 a3:=Tryz.isAgg3
 z3:=Tryz.sizeOf3
 v3:=Tryz.zeroValue3
 t4:=Tryz.underlying4
 a4:=Tryz.isAgg4
 z4:=Tryz.sizeOf4
 v4:=Tryz.zeroValue4
 t5:=Tryz.underlying5
 a5:=Tryz.isAgg5
 z5:=Tryz.sizeOf5
 v5:=Tryz.zeroValue5
 t9:=Tryz.underlying9
 a9:=Tryz.isAgg9
 z9:=Tryz.sizeOf9
 v9:=Tryz.zeroValue9
 t22:=Tryz.underlying32
 a22:=Tryz.isAgg32
 z22:=Tryz.sizeOf32
 v22:=Tryz.zeroValue32
 t25:=Tryz.underlying130
 a25:=Tryz.isAgg130
 z25:=Tryz.sizeOf130
 v25:=Tryz.zeroValue130
 t39:=Tryz.underlying126
 a39:=Tryz.isAgg126
 z39:=Tryz.sizeOf126
 v39:=Tryz.zeroValue126
 t45:=Tryz.underlying152
 a45:=Tryz.isAgg152
 z45:=Tryz.sizeOf152
 v45:=Tryz.zeroValue152
 t46:=Tryz.underlying153
 a46:=Tryz.isAgg153
 z46:=Tryz.sizeOf153
 v46:=Tryz.zeroValue153
 t50:=Tryz.underlying157
 a50:=Tryz.isAgg157
 z50:=Tryz.sizeOf157
 v50:=Tryz.zeroValue157
 t53:=Tryz.underlying143
 a53:=Tryz.isAgg143
 z53:=Tryz.sizeOf143
 v53:=Tryz.zeroValue143
 t55:=Tryz.underlying145
 a55:=Tryz.isAgg145
 z55:=Tryz.sizeOf145
 v55:=Tryz.zeroValue145
 t66:=Tryz.underlying172
 a66:=Tryz.isAgg172
 z66:=Tryz.sizeOf172
 v66:=Tryz.zeroValue172
 t70:=Tryz.underlying176
 a70:=Tryz.isAgg176
 z70:=Tryz.sizeOf176
 v70:=Tryz.zeroValue176
 t76:=Tryz.underlying191
 a76:=Tryz.isAgg191
 z76:=Tryz.sizeOf191
 v76:=Tryz.zeroValue191
 t77:=Tryz.underlying192
 a77:=Tryz.isAgg192
 z77:=Tryz.sizeOf192
 v77:=Tryz.zeroValue192 }
end Go.Proofs
namespace Go.Proofs.YtflhidfclfkjlaaGreat
open Go.RowKit Go.Sort
structure CLayCs (P:Program) (k:Nat):Prop where
 mixed:P.follows .mixedOrders=true
 t0:P.underlying 0=some (TypeDesc.tuple #[])
 a0:∀w,(isAgg 0).run P w=.ok false w
 z0:∀w,(Go.sizeOf 0).run P w=.ok 1 w
 v0:∀w,(zeroValue 0).run P w=.ok (Value.tuple #[]) w
 t1:P.underlying 3=some (TypeDesc.int IntKind.i64)
 a1:∀w,(isAgg 3).run P w=.ok false w
 z1:∀w,(Go.sizeOf 3).run P w=.ok 1 w
 v1:∀w,(zeroValue 3).run P w=.ok (Value.int IntKind.i64 0) w
 t2:P.underlying 4=some (TypeDesc.bool)
 a2:∀w,(isAgg 4).run P w=.ok false w
 z2:∀w,(Go.sizeOf 4).run P w=.ok 1 w
 v2:∀w,(zeroValue 4).run P w=.ok (Value.bool false) w
 t3:P.underlying 126=some (TypeDesc.int IntKind.u64)
 a3:∀w,(isAgg 126).run P w=.ok false w
 z3:∀w,(Go.sizeOf 126).run P w=.ok 1 w
 v3:∀w,(zeroValue 126).run P w=.ok (Value.int IntKind.u64 0) w
 t4:P.underlying 32=some (TypeDesc.slice 38)
 a4:∀w,(isAgg 32).run P w=.ok false w
 z4:∀w,(Go.sizeOf 32).run P w=.ok 1 w
 v4:∀w,(zeroValue 32).run P w=.ok (Value.slice none 0 0) w
 t5:P.underlying 130=some (TypeDesc.func #[38,38] #[3] false)
 a5:∀w,(isAgg 130).run P w=.ok false w
 z5:∀w,(Go.sizeOf 130).run P w=.ok 1 w
 v5:∀w,(zeroValue 130).run P w=.ok (Value.nilFunc) w
 aE:∀w,(isAgg 38).run P w=.ok true w
 zE:∀w,(Go.sizeOf 38).run P w=.ok k w
theorem clayCs:CLayCs Tryz.prog 4:={
 mixed:=by kernel_rfl
 t0:=Tryz.underlying0
 a0:=Tryz.isAgg0
 z0:=Tryz.sizeOf0
 v0:=Tryz.zeroValue0
 t1:=Tryz.underlying3
 a1:=Tryz.isAgg3
 z1:=Tryz.sizeOf3
 v1:=Tryz.zeroValue3
 t2:=Tryz.underlying4
 a2:=Tryz.isAgg4
 z2:=Tryz.sizeOf4
 v2:=Tryz.zeroValue4
 t3:=Tryz.underlying126
 a3:=Tryz.isAgg126
 z3:=Tryz.sizeOf126
 v3:=Tryz.zeroValue126
 t4:=Tryz.underlying32
 a4:=Tryz.isAgg32
 z4:=Tryz.sizeOf32
 v4:=Tryz.zeroValue32
 t5:=Tryz.underlying130
 a5:=Tryz.isAgg130
 z5:=Tryz.sizeOf130
 v5:=Tryz.zeroValue130
 aE:=Tryz.isAgg38
 zE:=Tryz.sizeOf38 }
section
variable {P:Program} {α:Type} [Inhabited α]
def eqlCs (a b:Value):Sem Value:=binOp .eql 38 a b
def neqCs (a b:Value):Sem Value:=binOp .neq 38 a b
theorem eql_Cs (a b:Value):binOp .eql 38 a b=eqlCs a b:=rfl
theorem neq_Cs (a b:Value):binOp .neq 38 a b=neqCs a b:=rfl
attribute [local go_sem ↓ high] eql_Cs neq_Cs
set_option maxHeartbeats 8000000 in
set_option maxRecDepth 1000000 in
theorem compactECs_any {k:Nat} (L:CLayCs P k) (enc:α→List Value) (hk:∀x,(enc x).length=k) (h1:∀x,∀v∈enc x,v.oneCell' =true) (eq:α→α→Bool) (hcmp:∀(w:World) (x y:α),(eqlCs (.agg (enc x).toArray) (.agg (enc y).toArray)).run P w=.ok (.bool (eq x y)) w) (hcm2:∀(w:World) (x y:α),(neqCs (.agg (enc x).toArray) (.agg (enc y).toArray)).run P w=.ok (.bool (!eq x y)) w)
 (hEG:P.eqGuardType P.depth 38=false)
 (fC:P.funcs[94]? =some Tryz.f94)
 (z:Array Value) (hv:∀w,(zeroValue 38).run P w=.ok (.agg z) w) (hz:z.size=k) (hz1:∀v∈z,v.oneCell' =true)
 (g off cap s:Nat) (d:Array α) (w:World) (hH:HoldsK enc k w g off d) (hg:g < w.heap.size) (hsz:d.size < 1000000000000) (hcap:d.size≤cap) (hs:d.size=s) :
 Calls P 94 #[.slice (some ⟨g,off,none⟩) s cap] w fun e w'=>
  e=.returned (.slice (some ⟨g,off,none⟩) (cpt eq d s).length cap)∧HoldsK enc k w' g off (cpt eq d s).toArray∧Ex w.heap.size (some g) w w':=by
 subst hs
 have mixed:=L.mixed;have t0:=L.t0;have a0:=L.a0;have z0:=L.z0;have v0:=L.v0;have t1:=L.t1;have a1:=L.a1;have z1:=L.z1;have v1:=L.v1;have t2:=L.t2;have a2:=L.a2;have z2:=L.z2;have v2:=L.v2;have t3:=L.t3;have a3:=L.a3;have z3:=L.z3;have v3:=L.v3;have t4:=L.t4;have a4:=L.a4;have z4:=L.z4;have v4:=L.v4;have t5:=L.t5;have a5:=L.a5;have z5:=L.z5;have v5:=L.v5;have aE:=L.aE;have zE:=L.zE
 have u4:=run_underlying L.t4
 have HK:=Lib.hid hk
 have H1:=Lib.hid h1
 have HC:=Lib.hid (And.intro hcmp hcm2)
 have HHw:=Lib.hid hH
 have HZ:=Lib.hid (And.intro hv (And.intro hz hz1))
 have same:∀wr,(∀j,j < d.size→stays eq d j=true)→HoldsK enc k wr g off d→(cpt eq d d.size).length=d.size∧HoldsK enc k wr g off (cpt eq d d.size).toArray:=fun wr hall h=>by
  have e:=cpt_all hall (Nat.le_refl _)
  rw [e,List.take_of_length_le (by simp)]
  exact⟨by simp,by simpa using h⟩
 have SAME:=Lib.hid same
 clear hk h1 hcmp hcm2 hH hv hz hz1 same
 by_cases h2:d.size < 2
 · go_enter fC,Tryz.ntmps94
   go_wp2
   go_ret
   obtain⟨e1,e2⟩:=SAME.out w (fun j hj=>by obtain rfl:j=0:=(by omega);rfl) HHw.out
   exact⟨by rw [e1];rfl,e2,Ex.refl _ _ _⟩
 · go_enter fC,Tryz.ntmps94
   go_wp2
   go_loopw [3] (fun s3 wr=>∃i:Nat,s3=.int .i64 i∧1≤i∧i≤d.size∧(∀j,j < i→stays eq d j=true)∧HoldsK enc k wr g off d∧Ex w.heap.size (some g) w wr) (fun s3 _=>d.size - (intOf s3).toNat)
   case atStart=>exact⟨1,rfl,Nat.le_refl _,by omega,fun j hj=>by obtain rfl:j=0:=(by omega);rfl,HHw.out,Ex.refl _ _ _⟩
   case round=>
    obtain⟨i,rfl,hi1,hi,hall,hHk,hex⟩:=hrel
    have HHk:=Lib.hid hHk
    have HA:=Lib.hid hall
    clear hHk hall
    have hsz':=hex.size
    by_cases hlt:i < d.size
    · obtain⟨ip,hip⟩:∃ip,ip=i - 1:=⟨_,rfl⟩
      have hwp:IntKind.i64.wrap ((i:Int) - 1)= (ip:Int):=by rw [IntKind.wrap_i64];omega
      have b1: (i:Int) < d.size:=by omega
      have b2: (ip:Int) < d.size:=by omega
      have HIP:=Lib.hid hip
      clear hip
      have hHc:∀n' os',HoldsK enc k (grow (wr.drewN n') os') g off d:=fun n' os'=>holdsK_grow enc k _ os' g off d (by show g < wr.heap.size;omega) (show HoldsK enc k (wr.drewN n') g off d from HHk.out)
      obtain⟨v1,hv1⟩:∃v,d[i]! =v:=⟨_,rfl⟩
      obtain⟨v2,hv2⟩:∃v,d[ip]! =v:=⟨_,rfl⟩
      have l1:∀n' os',Sem.run P (loadCellsFrom ⟨g,off+i * k,none⟩ 0 k #[]) (grow (wr.drewN n') os')=.ok (enc v1).toArray (grow (wr.drewN n') os'):=fun n' os'=>by
       rw [←hv1,show off+i * k=off+ (i) * k by rfl];exact run_loadCellsFrom_list P _ _ _ k (HK.out _) (HoldsK.cells (hHc n' os') HK.out (by omega))
      have l2:∀n' os',Sem.run P (loadCellsFrom ⟨g,off+ip * k,none⟩ 0 k #[]) (grow (wr.drewN n') os')=.ok (enc v2).toArray (grow (wr.drewN n') os'):=fun n' os'=>by
       rw [←hv2,show off+ip * k=off+ (ip) * k by rfl];exact run_loadCellsFrom_list P _ _ _ k (HK.out _) (HoldsK.cells (hHc n' os') HK.out (by omega))
      have hcg:∀W,(eqlCs (.agg (enc v1).toArray) (.agg (enc v2).toArray)).run P W=.ok (.bool (eq v1 v2)) W:=fun W=>HC.out.1 W v1 v2
      have hcn:∀W,(neqCs (.agg (enc v1).toArray) (.agg (enc v2).toArray)).run P W=.ok (.bool (!eq v1 v2)) W:=fun W=>HC.out.2 W v1 v2
      have HV:Hid (d[i]! =v1∧d[ip]! =v2):=⟨hv1,hv2⟩
      clear hHc hv1 hv2
      by_cases hlv:eq v1 v2=true
      · simp only [hlv,Bool.not_true] at hcg hcn
        go_wp2_with fail
        go_quiet_grown (fail)
        have hc0:i≤cap:=by omega
        by_cases hce:cap=i
        · omega
        go_wp2
        obtain⟨wo,hwo⟩:∃wo:World,wo=grow (wr.drewN nq) osq:=⟨_,rfl⟩
        have hHo:HoldsK enc k wo g off d:=by rw [hwo];exact holdsK_grow enc k _ _ g off d (by show g < wr.heap.size;omega) (show HoldsK enc k (wr.drewN nq) g off d from HHk.out)
        have hexo:Ex w.heap.size (some g) w wo:=by rw [hwo];exact hex.trans (exGrowK nq osq none (Nat.le_refl _)) hsz' (by simp)
        rw [←hwo]
        have HHo:=Lib.hid hHo
        have HD0:Hid (stays eq d i=false):=by
         have:=stays_of (eq:=eq) (d:=d) (n:=i) (by omega) true (by rw [←HIP.out,HV.out.1,HV.out.2];exact hlv)
         exact this
        clear hHo hwo l1 l2 hcg hcn hlv
        go_loopw [3,5] (fun s3 s5 wr=>∃(kk k2:Nat) (dk:Array α),s3=.int .i64 kk∧s5=.int .i64 k2∧1≤k2∧i+k2≤d.size∧CInv eq d (i+k2) kk dk∧HoldsK enc k wr g off dk∧Ex w.heap.size (some g) w wr) (fun _ s5 _=>d.size - (intOf s5).toNat)
        case atStart=>exact⟨i,1,d,rfl,rfl,Nat.le_refl _,by omega,CInv.start HA.out HD0.out hlt,HHo.out,hexo⟩
        case round=>
         clear HHk HHo HD0 hex hexo hsz' HV
         obtain⟨kk,k2,dk,rfl,rfl,h1,hle,hI,hHk,hex⟩:=hrel
         have hkk:=hI.lt
         have hds:=hI.size
         have HI:=Lib.hid hI
         have HHk:=Lib.hid hHk
         have HDS:=Lib.hid hds
         clear hI hHk hds
         have hsz':=hex.size
         by_cases hlt2:i+k2 < d.size
         · obtain⟨mp,hmp⟩:∃mp,mp=k2 - 1:=⟨_,rfl⟩
           have hwp2:IntKind.i64.wrap ((k2:Int) - 1)= (mp:Int):=by rw [IntKind.wrap_i64];omega
           have hl2: ((d.size - i:Nat):Int)= (d.size:Int) - i:=by omega
           have b3: (k2:Int) < (d.size:Int) - i:=by omega
           have b4: (mp:Int) < (d.size:Int) - i:=by omega
           have b5:k2 < d.size - i:=by omega
           have b6:mp < d.size - i:=by omega
           have hdz:dk.size=d.size:=HDS.out
           have HMP:=Lib.hid hmp
           have HDZ:=Lib.hid hdz
           clear hmp hdz
           have hHc:∀n' os',HoldsK enc k (grow (wr.drewN n') os') g off dk:=fun n' os'=>holdsK_grow enc k _ os' g off dk (by show g < wr.heap.size;omega) (show HoldsK enc k (wr.drewN n') g off dk from HHk.out)
           obtain⟨v1,hv1⟩:∃v,dk[i+k2]! =v:=⟨_,rfl⟩
           obtain⟨v2,hv2⟩:∃v,dk[i+mp]! =v:=⟨_,rfl⟩
           have l1:∀n' os',Sem.run P (loadCellsFrom ⟨g,off+i * k+k2 * k,none⟩ 0 k #[]) (grow (wr.drewN n') os')=.ok (enc v1).toArray (grow (wr.drewN n') os'):=fun n' os'=>by
            rw [←hv1,show off+i * k+k2 * k=off+ (i+k2) * k by exact shiftAtK _ _ _ _];exact run_loadCellsFrom_list P _ _ _ k (HK.out _) (HoldsK.cells (hHc n' os') HK.out (by have:=HDZ.out;omega))
           have l2:∀n' os',Sem.run P (loadCellsFrom ⟨g,off+i * k+mp * k,none⟩ 0 k #[]) (grow (wr.drewN n') os')=.ok (enc v2).toArray (grow (wr.drewN n') os'):=fun n' os'=>by
            rw [←hv2,show off+i * k+mp * k=off+ (i+mp) * k by exact shiftAtK _ _ _ _];exact run_loadCellsFrom_list P _ _ _ k (HK.out _) (HoldsK.cells (hHc n' os') HK.out (by have:=HDZ.out;omega))
           have hcg:∀W,(eqlCs (.agg (enc v1).toArray) (.agg (enc v2).toArray)).run P W=.ok (.bool (eq v1 v2)) W:=fun W=>HC.out.1 W v1 v2
           have hcn:∀W,(neqCs (.agg (enc v1).toArray) (.agg (enc v2).toArray)).run P W=.ok (.bool (!eq v1 v2)) W:=fun W=>HC.out.2 W v1 v2
           have HV:Hid (dk[i+k2]! =v1∧dk[i+mp]! =v2):=⟨hv1,hv2⟩
           clear hHc hv1 hv2
           by_cases hlv:eq v1 v2=true
           · simp only [hlv,Bool.not_true] at hcg hcn
             go_wp2_with fail
             go_quiet_grown (fail)
             go_wp2
             go_roundw
             case rel=>exact⟨kk,k2+1,dk,rfl,by go_num,by omega,by omega,HI.out.skip (stays_of (by omega) true (by
              have e1:=HI.out.rest (i+k2) (by omega)
              have e2:=HI.out.rest (i+mp) (by have:=HMP.out;omega)
              rw [show i+k2 - 1=i+mp by have:=HMP.out;omega,←e1,←e2,HV.out.1,HV.out.2];exact hlv)),holdsK_grow enc k _ _ g off dk (by show g < wr.heap.size;omega) (show HoldsK enc k (wr.drewN nq) g off dk from HHk.out),hex.trans (exGrowK nq osq none (Nat.le_refl _)) hsz' (by simp)⟩
             case measure=>simp [intOf];omega
           · have hlv' :eq v1 v2=false:=by simpa using hlv
             simp only [hlv',Bool.not_false] at hcg hcn
             go_wp2_with fail
             go_quiet_grown (fail)
             obtain⟨wq,hwq⟩:∃wq:World,wq=grow (wr.drewN nq) osq:=⟨_,rfl⟩
             have hHq:HoldsK enc k wq g off dk:=by rw [hwq];exact holdsK_grow enc k _ _ g off dk (by show g < wr.heap.size;omega) (show HoldsK enc k (wr.drewN nq) g off dk from HHk.out)
             have hexq:Ex w.heap.size (some g) w wq:=by rw [hwq];exact hex.trans (exGrowK nq osq none (Nat.le_refl _)) hsz' (by simp)
             have lq:Sem.run P (loadCellsFrom ⟨g,off+i * k+k2 * k,none⟩ 0 k #[]) wq=.ok (enc v1).toArray wq:=by rw [hwq];exact l1 nq osq
             rw [←hwq]
             have sq:Sem.run P (storeCells ⟨g,off+kk * k,none⟩ (enc v1) 0) wq=.ok () (wq.setCells g (off+kk * k) (enc v1)):=stores_of_holds P hHq (kk * k) _ (by
              rw [HK.out,size_flatK]
              have:=Nat.mul_le_mul_right k (show kk+1≤dk.size by have:=HDZ.out;omega);rwa [Nat.add_mul,Nat.one_mul] at this) (H1.out _)
             have hsV: (enc v1).length=k:=HK.out _
             have HQ:=Lib.hid hHq
             have hszq:=hexq.size
             clear l1 l2 hcg hcn hwq hHq
             obtain⟨cV,hcV⟩:∃c,c=enc v1:=⟨_,rfl⟩
             rw [←hcV] at lq sq hsV
             have CC:=Lib.hid hcV
             clear hcV
             have b7: (kk:Int) < d.size:=by omega
             go_wp2
             go_roundw
             case rel=>
              have e1:=HI.out.rest (i+k2) (by omega)
              have e2:=HI.out.rest (i+mp) (by have:=HMP.out;omega)
              have hk:=HI.out.keep (stays_of (by omega) false (by
               rw [show i+k2 - 1=i+mp by have:=HMP.out;omega,←e1,←e2,HV.out.1,HV.out.2];exact hlv')) hlt2
              rw [←e1,HV.out.1] at hk
              refine⟨kk+1,k2+1,dk.setIfInBounds kk v1,by go_num,by go_num,by omega,by omega,hk,?_,hexq.trans (ex_setCells wq g (off+kk * k) cV) hszq (fun q e _=>by cases e;rfl)⟩
              rw [CC.out]
              exact holdsK_set HK.out HQ.out kk v1 (by have:=HDZ.out;omega)
             case measure=>simp [intOf];omega
         · obtain⟨n,hn⟩:∃n,n=d.size:=⟨_,rfl⟩
           have hend:i+k2=d.size:=by omega
           have hdz:dk.size=d.size:=HDS.out
           have hcl:∀ty,(Builtin.clear_ #[32] ty #[.slice (some ⟨g,off+kk * k,none⟩) (d.size - kk) (cap - kk)]).run P wr=.ok (.tuple #[]) (wr.setCells g (off+kk * k) (Builtin.zeroCells z (d.size - kk)).toList) :=
            fun ty=>runClearK wr _ _ ty (.agg z) k L.t4 HZ.out.1 HZ.out.2.1 HZ.out.2.2 g (off+kk * k) _ _ (by omega) (fun j hj=>by
             have:=(HHk.out (kk * k+j) (by rw [size_flatK,hdz];have:=Nat.add_mul kk (d.size - kk) k;rw [show kk+ (d.size - kk)=d.size by omega] at this;omega)).1
             rw [Nat.add_assoc,this];rfl) (fun j hj=>by
             have:=(HHk.out (kk * k+j) (by rw [size_flatK,hdz];have:=Nat.add_mul kk (d.size - kk) k;rw [show kk+ (d.size - kk)=d.size by omega] at this;omega)).2
             rw [Nat.add_assoc];exact this)
           have hexc:=hex.trans (ex_setCells wr g (off+kk * k) (Builtin.zeroCells z (d.size - kk)).toList) hsz' (fun q e _=>by cases e;rfl)
           have hfin:HoldsK enc k (wr.setCells g (off+kk * k) (Builtin.zeroCells z (d.size - kk)).toList) g off (cpt eq d d.size).toArray:=by
            have hI:=HI.out
            rw [hend] at hI
            obtain⟨h1,h2⟩:=hI.head (Nat.le_refl _)
            exact holdsK_behind (holdsK_first HHk.out h1 h2) _ _ (by simp [hI.len])
           have hlen: (cpt eq d d.size).length=kk:=by have:=HI.out.len;rwa [hend] at this
           have FIN:=Lib.hid (And.intro hexc (And.intro hfin hlen))
           have b7: (kk:Int)≤d.size:=by omega
           have b8 : ¬(k2:Int) < (d.size:Int) - i:=by omega
           have b9 : ¬k2 < d.size - i:=by omega
           have b10: (kk:Int)≤cap:=by omega
           have b11:kk≤cap:=by omega
           have b12:kk≤d.size:=by omega
           have b13 : ¬cap=kk:=by omega
           clear hexc hfin hlen hend hdz hn
           go_wp2
           go_ret
           exact⟨by rw [FIN.out.2.2];rfl,FIN.out.2.1,FIN.out.1⟩
      · have hlv' :eq v1 v2=false:=by simpa using hlv
        simp only [hlv',Bool.not_false] at hcg hcn
        go_wp2_with fail
        go_quiet_grown (fail)
        go_wp2
        go_roundw
        case rel=>exact⟨i+1,by go_num,by omega,by omega,fun j hj=>by
         by_cases e:j=i
         · subst e
           exact stays_of (by omega) false (by rw [←HIP.out,HV.out.1,HV.out.2];exact hlv')
         · exact HA.out j (by omega),holdsK_grow enc k _ _ g off d (by show g < wr.heap.size;omega) (show HoldsK enc k (wr.drewN nq) g off d from HHk.out),hex.trans (exGrowK nq osq none (Nat.le_refl _)) hsz' (by simp)⟩
        case measure=>simp [intOf];omega
    · obtain rfl:i=d.size:=by omega
      go_wp2
      go_ret
      obtain⟨e1,e2⟩:=SAME.out wr HA.out HHk.out
      exact⟨by rw [e1];rfl,e2,hex⟩
end
theorem row_frozen_g {w:World} {g i:Nat} {cs:Array Value} {t:TypeId} (h:w.heap[g]? =some (.cells cs t (0,0))):w.frozen? ⟨g,i,none⟩=false:=by
 unfold World.frozen?
 dsimp only
 rw [h]
 simp
section
section
variable {P:Program} {md:Region.Mode} {ops:Array Oper} {C:World→Prop}
def headQ (P:Program) (md:Region.Mode) (ops:Array Oper) (C:World→Prop) (n:Nat) (L:Array Bool→Act→Prop):Nat→Array Bool→Act→Prop
 | 0,ls,a=>L ls a
 | m+1,ls,a=>Region.ready md ops ls≠[]∧∀i,i∈Region.ready md ops ls→i < n∧qOp P ops C i (headQ P md ops C n L m (ls.setIfInBounds i true)) a
theorem headQ_any {n g:Nat} {L:Array Bool→Act→Prop} {Q:Exit→Act→World→Prop} (hL:∀ls a w,C w→L ls a→wpAny P md ops Q g ls a w) (m:Nat) :
 ∀(ls:Array Bool) (a:Act) (w:World),C w→headQ P md ops C n L m ls a→wpAny P md ops Q (m+g) ls a w:=by
 induction m with
 | zero=>intro ls a w hw h;simpa using hL ls a w hw h
 | succ m ih=>
   intro ls a w hw h
   have e:m+1+g=m+g+1:=by omega
   rw [e]
   refine⟨fun z=>absurd z h.1,fun i hi=>?_⟩
   exact wpOp_of_qOp hw (fun a' w' hw' h'=>ih _ a' w' hw' h') (h.2 i hi).2
theorem headQ_take {n i:Nat} {o:Oper} {v:Value} {L:Array Bool→Act→Prop} (ho:ops[i]? =some o) (hsel:∀(j:Nat) (u:Oper) cs b,ops[j]? =some u→u.op≠.select cs b)
 (htw:∀ls,HeadInv md ops n ls→∀i,i < n→ls.getD i true=false→∀t,n≤t→t∉Region.ready md ops ls) (hi:i < n) (hend:∀ls a,L ls a→∀j∈Region.ready md ops ls,n≤j) (m:Nat) :
 ∀(ls:Array Bool) (a:Act),HeadInv md ops n ls→
  (∀j u,ops[j]? =some u→j≠i→ls.getD j true=false→(∀e∈u.after,Region.binds md e=true→e.on≠i)→o.apart ops u=true)→
  i∈Region.ready md ops ls→YieldsIn P ops C o v a→headQ P md ops C n L m (ls.setIfInBounds i true) (a.put o.dst v)→headQ P md ops C n L (m+1) ls a:=by
 induction m with
 | zero=>
   intro ls a inv _ hr hy H
   have hun:=(mem_ready.1 hr).1
   refine⟨fun z=>by simp [z] at hr,fun j hj=>?_⟩
   have hjn:j < n:=Classical.byContradiction fun c=>htw _ inv i hi hun j (Nat.le_of_not_lt c) hj
   refine⟨hjn,?_⟩
   by_cases e:j=i
   · rw [e];exact hy.qOp ho H
   · exact absurd (hend _ _ H j (ready_mono hj e)) (by omega)
 | succ m ih=>
   intro ls a inv hfree hr hy H
   have hun:=(mem_ready.1 hr).1
   refine⟨fun z=>by simp [z] at hr,fun j hj=>?_⟩
   have hjn:j < n:=Classical.byContradiction fun c=>htw _ inv i hi hun j (Nat.le_of_not_lt c) hj
   refine⟨hjn,?_⟩
   by_cases e:j=i
   · rw [e];exact hy.qOp ho H
   · obtain⟨hju,u,hu,hall⟩:=mem_ready.1 hj
     have hno:∀x∈u.after,Region.binds md x=true→x.on≠i:=fun x hx hb c=>by
      have:=hall x hx hb
      rw [c,getD_both hun] at this
      cases this
     have hq:=qOp_put hu (hfree j u hu e hju hno) (fun cs b=>hsel i o cs b ho) (fun cs b=>hsel j u cs b hu) hy (H.2 j (ready_mono hj e)).2
     refine qOp_mono (fun a' h3=>?_) hq
     refine ih _ a' (inv.set hj hjn) (fun k uk hk hki hku hkn=>?_) (ready_mono hr (Ne.symm e)) h3.1 ?_
     · refine hfree k uk hk hki ?_ hkn
       by_cases c:j=k
       · rw [←c];exact hju
       · rwa [getD_set_ne true c] at hku
     · rw [Array.setIfInBounds_comm _ _ e];exact h3.2
def lexHeadE (md:Region.Mode) (ops:Array Oper) (E:Array Bool→Bool):Nat→Nat→Array Bool→Bool
 | 0,_,ls=>E ls
 | m+1,k,ls=>(Region.ready md ops ls).contains k && Region.free md ops ls k && lexHeadE md ops E m (k+1) (ls.setIfInBounds k true)
theorem headQ_lex {n:Nat} {E:Array Bool→Bool} {Lq:Act→Prop} (hsel:Region.noSelect ops=true) (htw:∀ls,HeadInv md ops n ls→∀i,i < n→ls.getD i true=false→∀t,n≤t→t∉Region.ready md ops ls)
 (hE:∀ls,E ls=true→∀j∈Region.ready md ops ls,n≤j) (l:List Oper) :
 ∀(k:Nat) (ls:Array Bool) (a:Act),(∀j,j < l.length→l[j]? =ops[k+j]?)→k+l.length=n→HeadInv md ops n ls→lexHeadE md ops E l.length k ls=true→
  wpQuiet P ops C Lq l a→headQ P md ops C n (fun ls' a'=>E ls' =true∧Lq a') l.length ls a:=by
 induction l with
 | nil=>intro k ls a _ _ _ hB h;exact⟨hB,h⟩
 | cons o r ih=>
   intro k ls a hl hk inv hB h
   have h0:ops[k]? =some o:=by have:=hl 0 (by simp);simpa using this.symm
   simp only [List.length_cons] at hk
   simp only [List.length_cons,lexHeadE,Bool.and_eq_true] at hB
   have hr:k∈Region.ready md ops ls:=by simpa using hB.1.1
   have hq:qOp P ops C k (wpQuiet P ops C Lq r) a:=by unfold qOp;rw [h0];exact h
   obtain⟨v,hy,hK⟩:=yieldsIn_of_qOp h0 hq
   refine headQ_take h0 (Region.noSelect_spec hsel) htw (by omega) (fun ls' a' hL=>hE _ hL.1) r.length ls a inv (Region.free_spec h0 hB.1.2) hr hy ?_
   exact ih (k+1) _ _ (fun j hj=>by have:=hl (j+1) (by simpa using hj);simpa [Nat.add_assoc,Nat.add_comm 1 j] using this) (by omega) (inv.set hr (by omega)) hB.2 hK
def sinkT (md:Region.Mode) (ops:Array Oper) (n t:Nat):Bool :=
 (List.range n).all fun i=>Region.waitsFor md ops t i || (List.range n).any fun j=>decide (i < j) && Region.waitsFor md ops j i
theorem sinkT_waits {n t:Nat} {ls:Array Bool} (h:sinkT md ops n t=true) (inv:HeadInv md ops n ls) (hn:n≤ops.size):∀(d i:Nat),n - i=d→i < n→ls.getD i true=false→t∉Region.ready md ops ls:=by
 intro d
 induction d using Nat.strongRecOn with
 | _ d ih=>
   intro i hd hi hun hr
   obtain⟨_,ot,hot,hall⟩:=mem_ready.1 hr
   have key:∀j,Region.waitsFor md ops j i=true→∀o,ops[j]? =some o→(∀e∈o.after,Region.binds md e=true→ls.getD e.on false=true)→False:=fun j hj o ho hlo=>by
    obtain⟨o',ho',e,he,hb,hon⟩:=Region.waitsFor_spec hj
    have:o' =o:=Option.some.inj (ho'.symm.trans ho)
    subst this
    have h2:=hlo e he hb
    rw [hon,getD_both hun] at h2
    cases h2
   have h1:=List.all_eq_true.1 h i (List.mem_range.2 hi)
   simp only [Bool.or_eq_true] at h1
   rcases h1 with h1 | h1
   · exact key t h1 ot hot hall
   · obtain⟨j,hj,hj2⟩:=List.any_eq_true.1 h1
     simp only [Bool.and_eq_true,decide_eq_true_eq] at hj2
     have hjn:=List.mem_range.1 hj
     obtain⟨oj,hoj,_⟩:=Region.waitsFor_spec hj2.2
     cases hl:ls.getD j false with
     | true=>exact key j hj2.2 oj hoj (inv.closed j oj hoj hl)
     | false=>
       have hjs:j < ls.size:=by rw [inv.size];omega
       exact ih (n - j) (by omega) j rfl hjn (getD_in hjs hl) hr
theorem wp_region_quiet_tail {id:Nat} {Q:Exit→Act→World→Prop} {a:Act} {w:World} {l:List Oper} (n:Nat) (hm:P.follows .mixedOrders=true)
 (hB: (Region.noSelect l.toArray && decide (n < l.toArray.size) && Region.sinkB .any l.toArray n && Region.chainB .any l.toArray n && lexHeadE .any l.toArray (fun ls=>Region.seqB .any l.toArray (l.toArray.size - n) n ls) n 0 (Array.replicate l.toArray.size false))=true) (hC:C w.drew)
 (h:wpQuiet P l.toArray C (fun a'=>∀w',C w'→wpList P l.toArray Q (l.drop n) a' w') (l.take n) a): (Code.region id l.toArray true).wp P Q a w:=by
 simp only [Bool.and_eq_true,decide_eq_true_eq] at hB
 obtain⟨⟨⟨⟨hsel,hn⟩,h1⟩,h2⟩,hlex⟩:=hB
 have hn2:n < l.length:=by simpa using hn
 have ht: (l.take n).length=n:=by simp;omega
 have inv:HeadInv .any l.toArray n (Array.replicate l.toArray.size false) :=
  ⟨by simp,fun j u _ hl=>(by rw [getD_replicate_false] at hl;cases hl),fun t _ htt=>getD_in (by simpa using htt) (getD_replicate_false _ _)⟩
 have H:=headQ_lex (C:=C) (md:=.any) hsel (fun ls inv i hi hun t htt=>tail_waits h1 h2 hn inv _ i rfl hi hun t htt) (fun ls hls=>seqB_ready hls) (l.take n) 0 _ a (fun j hj=>by
  rw [ht] at hj
  simp [hj]) (by omega) inv (by rw [ht];exact hlex) h
 refine wp_region_any hm ?_
 have K:=headQ_any (Q:=Q) (g:=l.toArray.size - n) (fun ls a' w' hw' hL=>by
  have hd: (l.drop n).length=l.toArray.size - n:=by simp
  have:=wpAny_of_seq (md:=.any) (Q':=Q) (l.drop n) n ls a' w' (fun j=>by simp [List.getElem?_drop]) (by rw [hd];exact hL.1) (hL.2 w' hw')
  rwa [hd] at this) _ _ a w.drew hC H
 rw [ht,show n+ (l.toArray.size - n)=l.toArray.size by omega] at K
 exact K
def twoB (md:Region.Mode) (ops:Array Oper) (n:Nat) (ls:Array Bool):Bool :=
 decide (Region.ready md ops ls=[n,n+1]) && decide (Region.ready md ops (ls.setIfInBounds n true)=[n+1]) && decide (Region.ready md ops (ls.setIfInBounds (n+1) true)=[n]) &&
 decide (Region.ready md ops ((ls.setIfInBounds n true).setIfInBounds (n+1) true)=[]) && decide (Region.ready md ops ((ls.setIfInBounds (n+1) true).setIfInBounds n true)=[])
def threeB (md:Region.Mode) (ops:Array Oper) (n:Nat) (ls:Array Bool):Bool :=
 decide (Region.ready md ops ls=[n,n+1]) && twoB md ops (n+1) (ls.setIfInBounds n true) && decide (Region.ready md ops (ls.setIfInBounds (n+1) true)=[n]) &&
 decide (Region.ready md ops ((ls.setIfInBounds (n+1) true).setIfInBounds n true)=[n+2]) && decide (Region.ready md ops (((ls.setIfInBounds (n+1) true).setIfInBounds n true).setIfInBounds (n+2) true)=[])
end
theorem wp_region_quiet_ex_tail {P:Program} {id:Nat} {Q:Exit→Act→World→Prop} {a:Act} {w:World} {l:List Oper} (n:Nat) (hm:P.follows .mixedOrders=true)
 (hB: (Region.noSelect l.toArray && decide (n < l.toArray.size) && Region.sinkB .any l.toArray n && Region.chainB .any l.toArray n && lexHeadE .any l.toArray (fun ls=>Region.seqB .any l.toArray (l.toArray.size - n) n ls) n 0 (Array.replicate l.toArray.size false))=true)
 (h:wpQuiet P l.toArray (fun v=>∃p:ExW w,v=p.w') (fun a'=>∀v,(∃p:ExW w,v=p.w')→wpList P l.toArray Q (l.drop n) a' v) (l.take n) a): (Code.region id l.toArray true).wp P Q a w :=
 wp_region_quiet_tail (C:=fun v=>∃p:ExW w,v=p.w') n hm hB ⟨⟨w.drew,(Ex.refl _ _ _).drew⟩,rfl⟩ h
end
section
theorem countP_one {p q:Nat→Bool} {i:Nat} (hp:p i=true) (hq:q i=false) (he:∀j,j≠i→q j=p j):∀n,i < n→(List.range n).countP q+1= (List.range n).countP p:=by
 have low:∀n,n≤i→(List.range n).countP q= (List.range n).countP p:=by
  intro n
  induction n with
  | zero=>intro _;rfl
  | succ n ih=>
    intro h
    rw [List.range_succ,List.countP_append,List.countP_append,ih (by omega)]
    simp only [List.countP_cons,List.countP_nil,he n (by omega)]
 intro n
 induction n with
 | zero=>intro h;omega
 | succ n ih=>
   intro h
   rw [List.range_succ,List.countP_append,List.countP_append]
   simp only [List.countP_cons,List.countP_nil]
   by_cases e:n=i
   · subst e
     rw [low n (Nat.le_refl _),hp,hq]
     simp
   · have h1:=ih (by omega)
     rw [he n e]
     omega
section
variable {P:Program} {md:Region.Mode} {ops:Array Oper} {Q:Exit→Act→World→Prop}
def Known (md:Region.Mode) (n:Nat) (d:Nat→Nat) (φ:Nat→Value→World→Prop) (o:Oper) (a:Act) (w:World):Prop:=∀e∈o.after,Region.binds md e=true→e.on < n→φ e.on (a.eval (.tmp (d e.on))) w
def Rim (n:Nat) (d:Nat→Nat) (a0 a:Act):Prop:=(∀k,(∀j,j < n→d j≠k)→a.tmps[k]? =a0.tmps[k]?)∧a.tmps.size=a0.tmps.size∧a.defers=a0.defers
theorem eval_put_ne {a:Act} {k j:Nat} {v:Value} (h:j≠k): (a.put (some j) v).eval (.tmp k)=a.eval (.tmp k):=by
 simp only [Act.eval,Act.put,Array.getD_eq_getD_getElem?]
 rw [Array.getElem?_setIfInBounds_ne h]
theorem eval_put_eq {a:Act} {k:Nat} {v:Value} (h:k < a.tmps.size): (a.put (some k) v).eval (.tmp k)=v:=by
 simp only [Act.eval,Act.put,Array.getD_eq_getD_getElem?]
 rw [Array.getElem?_setIfInBounds_self_of_lt h]
 rfl
theorem Rim.put {n:Nat} {d:Nat→Nat} {a0 a:Act} {i:Nat} {v:Value} (h:Rim n d a0 a) (hi:i < n):Rim n d a0 (a.put (some (d i)) v):=by
 refine⟨fun k hk=>?_,?_,h.2.2⟩
 · show(a.tmps.setIfInBounds (d i) v)[k]? =_
   rw [Array.getElem?_setIfInBounds_ne (hk i hi)]
   exact h.1 k hk
 · show(a.tmps.setIfInBounds (d i) v).size=_
   rw [Array.size_setIfInBounds];exact h.2.1
theorem rg_any {n g:Nat} {d:Nat→Nat} {φ:Nat→Value→World→Prop} {R:World→World→Prop} {a0:Act} {w0:World}
 (hRt:∀a b c,R a b→R b c→R a c) (hφ:∀i v w w',φ i v w→R w w'→φ i v w')
 (hd:∀i,i < n→∃o,ops[i]? =some o∧o.dst=some (d i)∧o.guard=none∧d i < a0.tmps.size∧∀e∈o.after,e.on < i)
 (hinj:∀i j,i < n→j < n→d i=d j→i=j)
 (htw:∀ls,HeadInv md ops n ls→∀i,i < n→ls.getD i true=false→∀t,n≤t→t∉Region.ready md ops ls)
 (hstep:∀i,i < n→∀o,ops[i]? =some o→∀(a:Act) (w:World),R w0 w→Rim n d a0 a→Known md n d φ o a w→∀K:Act→World→Prop,(∀v w',R w w'→φ i v w'→K (a.put o.dst v) w')→o.wp P a w K Q)
 (hend:∀ls a w,HeadInv md ops n ls→(∀i,i < n→ls.getD i true=true)→R w0 w→Rim n d a0 a→(∀i,i < n→φ i (a.eval (.tmp (d i))) w)→wpAny P md ops Q g ls a w) (hn:n≤ops.size) :
 ∀(m:Nat) (ls:Array Bool) (a:Act) (w:World),(List.range n).countP (fun i=> !ls.getD i true)=m→HeadInv md ops n ls→R w0 w→Rim n d a0 a→(∀i,i < n→ls.getD i true=true→φ i (a.eval (.tmp (d i))) w)→wpAny P md ops Q (m+g) ls a w:=by
 intro m
 induction m with
 | zero=>
   intro ls a w hc inv hR hF hI
   have hall:∀i,i < n→ls.getD i true=true:=fun i hi=>by
    have h:=List.countP_eq_zero.1 hc i (List.mem_range.2 hi)
    simpa using h
   rw [Nat.zero_add]
   exact hend ls a w inv hall hR hF fun i hi=>hI i hi (hall i hi)
 | succ m ih=>
   intro ls a w hc inv hR hF hI
   have hsz:n≤ls.size:=by rw [inv.size];exact hn
   -- one of the head is left, and the first that is left may come up
   have hex:∃i,i < n∧ls.getD i true=false:=by
    apply Classical.byContradiction
    intro hno
    have: (List.range n).countP (fun i=> !ls.getD i true)=0:=List.countP_eq_zero.2 fun i hi=>by
     have hi':=List.mem_range.1 hi
     cases hb:ls.getD i true with
     | true=>simp
     | false=>exact absurd ⟨i,hi',hb⟩ hno
    omega
   have hmin:∀k i,i≤k→i < n→ls.getD i true=false→∃j,j∈Region.ready md ops ls:=by
    intro k
    induction k with
    | zero=>
      intro i hi hin hb
      obtain rfl:i=0:=by omega
      obtain⟨o,ho,_,_,_,hlt⟩:=hd 0 hin
      exact⟨0,mem_ready.2 ⟨hb,o,ho,fun e he _=>by have:=hlt e he;omega⟩⟩
    | succ k ihk=>
      intro i hi hin hb
      obtain⟨o,ho,_,_,_,hlt⟩:=hd i hin
      by_cases hq:∃e∈o.after,Region.binds md e=true∧ls.getD e.on false=false
      · obtain⟨e,he,_,hbe⟩:=hq
        have h1:=hlt e he
        exact ihk e.on (by omega) (by omega) (getD_in (by omega) hbe)
      · exact⟨i,mem_ready.2 ⟨hb,o,ho,fun e he hbi=>by
         cases hbe:ls.getD e.on false with
         | true=>rfl
         | false=>exact absurd ⟨e,he,hbi,hbe⟩ hq⟩⟩
   have e:m+1+g=m+g+1:=by omega
   rw [e]
   refine⟨fun z=>?_,fun i hi=>?_⟩
   · obtain⟨i,hin,hb⟩:=hex
     obtain⟨j,hj⟩:=hmin i i (Nat.le_refl _) hin hb
     rw [z] at hj;cases hj
   · have hin:i < n:=Classical.byContradiction fun c=>by
      obtain⟨k,hk,hb⟩:=hex
      exact htw ls inv k hk hb i (Nat.le_of_not_lt c) hi
     obtain⟨hun,o',ho',hall⟩:=mem_ready.1 hi
     obtain⟨o,ho,hdst,hgd,hlt,_⟩:=hd i hin
     have:o' =o:=Option.some.inj (ho'.symm.trans ho)
     subst this
     have inv':=inv.set hi hin
     unfold wpOp
     simp only [ho]
     rw [if_pos (show Region.wanted o' (yielded ops a.tmps)=true by simp [Region.wanted,hgd])]
     refine .inl (hstep i hin o' ho a w hR hF (fun e he hb hen=>hI e.on hen ?_) _ fun v w' hRw hφi=>?_)
     · have:=hall e he hb
       cases hx:ls.getD e.on true with
       | true=>rfl
       | false=>rw [getD_both hx] at this;cases this
     · rw [hdst]
       refine ih _ _ _ ?_ inv' (hRt _ _ _ hR hRw) (hF.put hin) fun j hj hl=>?_
       · have h1:=countP_one (p:=fun i=> !ls.getD i true) (q:=fun j=> !(ls.setIfInBounds i true).getD j true) (i:=i) (by simp [hun]) (by
          simp only [Array.getD_eq_getD_getElem?]
          rw [Array.getElem?_setIfInBounds_self_of_lt (by omega)];rfl) (fun j hj=>by rw [getD_set_ne true (Ne.symm hj)]) n hin
         omega
       · by_cases c:j=i
         · subst c
           rw [eval_put_eq (by rw [hF.2.1];exact hlt)]
           exact hφi
         · rw [eval_put_ne (fun h=>c (hinj i j hin hj h).symm)]
           rw [getD_set_ne true (Ne.symm c)] at hl
           exact hφ _ _ _ _ (hI j hj hl) hRw
end
def dstOf (l:List Oper) (i:Nat):Nat:=((l[i]?).bind (·.dst)).getD 0
def rgB (l:List Oper) (n N:Nat):Bool :=
 decide (n≤l.length) && (List.range n).all (fun i=>match l[i]? with
  | some o=>o.dst.isSome && o.guard.isNone && decide (dstOf l i < N) && o.after.all (fun e=>decide (e.on < i)) && (List.range n).all (fun j=>decide (i=j) || !decide (dstOf l i=dstOf l j))
  | none=>false) && (List.range (l.length - n)).all (fun t=>sinkT .any l.toArray n (n+t))
theorem rim_refl (n:Nat) (d:Nat→Nat) (a:Act):Rim n d a a:=⟨fun _ _=>rfl,rfl,rfl⟩
theorem Rim.eval {n:Nat} {d:Nat→Nat} {a0 a:Act} (h:Rim n d a0 a) (k:Nat) (hk:∀j,j < n→d j≠k):a.eval (.tmp k)=a0.eval (.tmp k):=by
 simp only [Act.eval,Array.getD_eq_getD_getElem?]
 rw [h.1 k hk]
theorem act_eta (a:Act):a= ⟨((List.range a.tmps.size).map fun k=>a.eval (.tmp k)).toArray,a.defers⟩:=by
 obtain⟨t,df⟩:=a
 congr 1
 apply Array.ext
 · simp
 · intro i h1 h2
   simp [Act.eval,Array.getD_eq_getD_getElem?,h1]
theorem list_eq_halves {ls:Array Bool} {n g:Nat} (hs:ls.size=n+g) (h1:∀i,i < n→ls.getD i true=true) (h2:∀t,n≤t→t < n+g→ls.getD t true=false):ls= (List.replicate n true ++ List.replicate g false).toArray:=by
 apply Array.ext
 · simp [hs]
 · intro i hi hi2
   simp only [List.getElem_toArray]
   by_cases c:i < n
   · rw [List.getElem_append_left (by simpa using c)]
     have:=h1 i c
     simp only [Array.getD_eq_getD_getElem?,Array.getElem?_eq_getElem hi,Option.getD_some] at this
     simpa using this
   · rw [List.getElem_append_right (by simpa using Nat.le_of_not_lt c)]
     have:=h2 i (by omega) (by omega)
     simp only [Array.getD_eq_getD_getElem?,Array.getElem?_eq_getElem hi,Option.getD_some] at this
     simpa using this
theorem wp_region_rg {P:Program} {id:Nat} {l:List Oper} {Q:Exit→Act→World→Prop} {a:Act} {w:World} (n N:Nat) (φ:Nat→Value→World→Prop) (R:World→World→Prop)
 (hm:P.follows .mixedOrders=true) (hB:rgB l n N=true) (hN:a.tmps.size=N) (hR0:R w.drew w.drew) (hRt:∀a b c,R a b→R b c→R a c) (hφ:∀i v w w',φ i v w→R w w'→φ i v w')
 (hstep:∀i,i < n→∀o,l[i]? =some o→∀(a' :Act) (w' :World),R w.drew w'→Rim n (dstOf l) a a'→Known .any n (dstOf l) φ o a' w'→∀K:Act→World→Prop,(∀v w'',R w' w''→φ i v w''→K (a'.put o.dst v) w'')→o.wp P a' w' K Q)
 (hend:∀a' w',R w.drew w'→Rim n (dstOf l) a a'→(∀i,i < n→φ i (a'.eval (.tmp (dstOf l i))) w')→wpAny P .any l.toArray Q (l.length - n) (List.replicate n true ++ List.replicate (l.length - n) false).toArray a' w'): (Code.region id l.toArray true).wp P Q a w:=by
 simp only [rgB,Bool.and_eq_true,decide_eq_true_eq] at hB
 obtain⟨⟨hn,h1⟩,h2⟩:=hB
 have hd:∀i,i < n→∃o,l.toArray[i]? =some o∧o.dst=some (dstOf l i)∧o.guard=none∧dstOf l i < a.tmps.size∧∀e∈o.after,e.on < i:=fun i hi=>by
  have h:=List.all_eq_true.1 h1 i (List.mem_range.2 hi)
  cases ho:l[i]? with
  | none=>rw [ho] at h;cases h
  | some o=>
    rw [ho] at h
    simp only [Bool.and_eq_true,decide_eq_true_eq] at h
    obtain⟨⟨⟨⟨a1,a2⟩,a3⟩,a4⟩,_⟩:=h
    refine⟨o,by simpa using ho,?_,Option.isNone_iff_eq_none.1 a2,by omega,fun e he=>by simpa using Array.all_eq_true_iff_forall_mem.1 a4 e he⟩
    unfold dstOf
    rw [ho]
    cases hx:o.dst with
    | none=>rw [hx] at a1;cases a1
    | some k=>simp [hx]
 have hinj:∀i j,i < n→j < n→dstOf l i=dstOf l j→i=j:=fun i j hi hj he=>by
  have h:=List.all_eq_true.1 h1 i (List.mem_range.2 hi)
  cases ho:l[i]? with
  | none=>rw [ho] at h;cases h
  | some o=>
    rw [ho] at h
    simp only [Bool.and_eq_true,decide_eq_true_eq] at h
    have k:=List.all_eq_true.1 h.2 j (List.mem_range.2 hj)
    simp only [Bool.or_eq_true,decide_eq_true_eq,Bool.not_eq_true',decide_eq_false_iff_not] at k
    rcases k with k | k
    · exact k
    · exact absurd he k
 have inv:HeadInv .any l.toArray n (Array.replicate l.toArray.size false) :=
  ⟨by simp,fun j u _ hl=>(by rw [getD_replicate_false] at hl;cases hl),fun t _ htt=>getD_in (by simpa using htt) (getD_replicate_false _ _)⟩
 refine wp_region_any hm ?_
 have K:=rg_any (P:=P) (md:=.any) (ops:=l.toArray) (Q:=Q) (n:=n) (g:=l.length - n) (d:=dstOf l) (φ:=φ) (R:=R) (a0:=a) (w0:=w.drew) hRt hφ hd hinj (fun ls hi i hin hun t htt hr=>by
  have htl:t < l.length:=by
   obtain⟨_,ot,hot,_⟩:=mem_ready.1 hr
   have:=(Array.getElem?_eq_some_iff.1 hot).1
   simpa using this
  have hs:=List.all_eq_true.1 h2 (t - n) (List.mem_range.2 (by omega))
  rw [show n+ (t - n)=t by omega] at hs
  exact sinkT_waits hs hi (by simpa using hn) _ i rfl hin hun hr) (fun i hi o ho=>hstep i hi o (by simpa using ho)) (fun ls a' w' hi hall hR hF hI=>by
  have e:=list_eq_halves (ls:=ls) (n:=n) (g:=l.length - n) (by rw [hi.size];simp;omega) hall (fun t ht1 ht2=>hi.tail t ht1 (by simp;omega))
  rw [e]
  exact hend a' w' hR hF hI) (by simpa using hn) n (Array.replicate l.toArray.size false) a w.drew (by
   have:∀m,m≤l.length→(List.range m).countP (fun i=> !(Array.replicate l.toArray.size false).getD i true)=m:=by
    intro m
    induction m with
    | zero=>intro _;rfl
    | succ m ih=>
      intro h
      rw [List.range_succ,List.countP_append,ih (by omega)]
      have: (Array.replicate l.toArray.size false).getD m true=false:=getD_in (by simp;omega) (getD_replicate_false _ _)
      simp only [List.countP_cons,List.countP_nil,this]
      rfl
   exact this n hn) inv hR0 (rim_refl _ _ _) (fun i hi hl=>by
    have: (Array.replicate l.toArray.size false).getD i true=false:=getD_in (by simp;omega) (getD_replicate_false _ _)
    rw [this] at hl;cases hl)
 rw [show n+ (l.length - n)=l.length by omega] at K
 exact K
end
structure Fact where
 p:Value→World→Prop
 keep:∀{v w w'},p v w→Ex w.heap.size none w w'→p v w'
def Fact.is (u:Value):Fact:=⟨fun v _=>v=u,fun h _=>h⟩
def Fact.any:Fact:=⟨fun _ _=>True,fun h _=>h⟩
def Fact.box (base:Nat) (cs:Array Value) (t:TypeId):Fact:=⟨fun v w=>∃b,v=.pointer (some ⟨b,0,none⟩)∧base≤b∧w.heap[b]? =some (.cells cs t (0,0)),fun⟨b,h1,h2,h3⟩ hx=>⟨b,h1,h2,(hx.block b (Array.getElem?_eq_some_iff.1 h3).1 (by simp)).trans h3⟩⟩
def Fact.emp (base:Nat) (t:TypeId):Fact:=⟨fun v w=>∃b,v=.slice (some ⟨b,0,none⟩) 0 0∧base≤b∧w.heap[b]? =some (.cells #[] t (0,0)),fun⟨b,h1,h2,h3⟩ hx=>⟨b,h1,h2,(hx.block b (Array.getElem?_eq_some_iff.1 h3).1 (by simp)).trans h3⟩⟩
def Fact.sl {α:Type} (r:Rep α) (hk:0 < r.k) (base n:Nat) (xs:List α):Fact:=⟨fun v w=>∃ao ac,v=.slice ao n ac∧Sl r (fun b=>base≤b) w (.slice ao n ac) xs,fun⟨ao,ac,h1,h2⟩ hx=>⟨ao,ac,h1,h2.keep hk fun b _ hb=>hx.block b hb (by simp)⟩⟩
def factOf (fs:List Fact) (i:Nat):Fact:=(fs[i]?).getD Fact.any
def StepOK (P:Program) (Q:Exit→Act→World→Prop) (l:List Oper) (fs:List Fact) (a:Act) (w:World) (i:Nat) (o:Oper):Prop :=
 ∀(a' :Act) (w' :World),Ex w.heap.size none w w'→Rim fs.length (dstOf l) a a'→Known .any fs.length (dstOf l) (fun i=>(factOf fs i).p) o a' w'→∀K:Act→World→Prop,(∀v w'',Ex w'.heap.size none w' w''→(factOf fs i).p v w''→K (a'.put o.dst v) w'')→o.wp P a' w' K Q
theorem wp_value {P:Program} {o:Oper} {a:Act} {w w' :World} {v:Value} {K:Act→World→Prop} {Q:Exit→Act→World→Prop} (h: (execOp a.eval o).run P w=.ok (.value v) w') (hK:K (a.put o.dst v) w'):o.wp P a w K Q:=by
 unfold Oper.wp
 rw [h]
 exact hK
theorem Rim.evalB {n:Nat} {d:Nat→Nat} {a0 a:Act} (h:Rim n d a0 a) (k:Nat) (hk: (List.range n).all (fun j=> !decide (d j=k))=true):a.eval (.tmp k)=a0.eval (.tmp k):=h.eval k fun j hj=>by
 have:=List.all_eq_true.1 hk j (List.mem_range.2 hj)
 simpa using this
theorem wp_region_facts {P:Program} {id:Nat} {l:List Oper} {Q:Exit→Act→World→Prop} {a:Act} {w:World} (N:Nat) (fs:List Fact) (hm:P.follows .mixedOrders=true) (hB:rgB l fs.length N=true) (hN:a.tmps.size=N)
 (hstep:∀i,i < fs.length→∀o,l[i]? =some o→StepOK P Q l fs a w i o)
 (hend:∀a' w',Ex w.heap.size none w w'→Rim fs.length (dstOf l) a a'→(∀i,i < fs.length→(factOf fs i).p (a'.eval (.tmp (dstOf l i))) w')→wpAny P .any l.toArray Q (l.length - fs.length) (List.replicate fs.length true ++ List.replicate (l.length - fs.length) false).toArray a' w'): (Code.region id l.toArray true).wp P Q a w :=
 wp_region_rg fs.length N (fun i=>(factOf fs i).p) (fun x y=>Ex x.heap.size none x y) hm hB hN (Ex.refl _ _ _) (fun _ _ _ h k=>h.trans k h.size (by simp)) (fun i _ _ _ h hx=>(factOf fs i).keep h hx)
  (fun i hi o ho a' w' hR hF hK K h=>hstep i hi o ho a' w' ⟨hR.os,hR.tape,hR.output,hR.size,hR.block⟩ hF hK K h)
  (fun a' w' hR hF h=>hend a' w' ⟨hR.os,hR.tape,hR.output,hR.size,hR.block⟩ hF h)
def AllS (P:Program) (Q:Exit→Act→World→Prop) (l:List Oper) (fs:List Fact) (a:Act) (w:World):List Oper→Nat→Prop
 | [],_=>True
 | o :: r,i=>StepOK P Q l fs a w i o∧AllS P Q l fs a w r (i+1)
theorem allS_get {P:Program} {Q:Exit→Act→World→Prop} {l:List Oper} {fs:List Fact} {a:Act} {w:World}:∀(r:List Oper) (k:Nat),AllS P Q l fs a w r k→∀(j:Nat) (o:Oper),r[j]? =some o→StepOK P Q l fs a w (k+j) o
 | [],_,_,j,o,h=>by simp at h
 | x :: r,k,hA,0,o,h=>by
   simp only [List.getElem?_cons_zero,Option.some.injEq] at h
   subst h
   exact hA.1
 | x :: r,k,hA,j+1,o,h=>by
   rw [List.getElem?_cons_succ] at h
   have:=allS_get r (k+1) hA.2 j o h
   rwa [show k+1+j=k+ (j+1) by omega] at this
theorem wp_region_steps {P:Program} {id:Nat} {l:List Oper} {Q:Exit→Act→World→Prop} {a:Act} {w:World} (N:Nat) (fs:List Fact) (hm:P.follows .mixedOrders=true) (hB:rgB l fs.length N=true) (hN:a.tmps.size=N)
 (hs:AllS P Q l fs a w (l.take fs.length) 0)
 (hend:∀a' w',Ex w.heap.size none w w'→Rim fs.length (dstOf l) a a'→(∀i,i < fs.length→(factOf fs i).p (a'.eval (.tmp (dstOf l i))) w')→wpAny P .any l.toArray Q (l.length - fs.length) (List.replicate fs.length true ++ List.replicate (l.length - fs.length) false).toArray a' w'): (Code.region id l.toArray true).wp P Q a w :=
 wp_region_facts N fs hm hB hN (fun i hi o ho=>by
  have:=allS_get _ 0 hs i o (by rw [List.getElem?_take_of_lt hi];exact ho)
  rwa [Nat.zero_add] at this) hend
theorem wpAny_drop {P:Program} {l:List Oper} {Q:Exit→Act→World→Prop} {a:Act} {w:World} {n:Nat} {ls:Array Bool} (hB:Region.seqB .any l.toArray (l.length - n) n ls=true) (h:wpList P l.toArray Q (l.drop n) a w):wpAny P .any l.toArray Q (l.length - n) ls a w:=by
 have hd: (l.drop n).length=l.length - n:=by simp
 have:=wpAny_of_seq (md:=.any) (P:=P) (ops:=l.toArray) (Q':=Q) (l.drop n) n ls a w (fun j=>by simp [List.getElem?_drop]) (by rw [hd];exact hB) h
 rwa [hd] at this
end Go.Proofs.YtflhidfclfkjlaaGreat
namespace Go.Proofs.YtflhidfclfkjlaaGreat
open Go.Sort
section
variable {α:Type} [Inhabited α]
def Runs (lt:α→α→Bool) (s n:Nat) (d:Array α):Prop:=∀j,SortedIn lt (j * s) (min (j * s+s) n) d
structure Mid (lt:α→α→Bool) (s n k a:Nat) (d:Array α):Prop where
 at_:a=k * (2 * s)
 low:∀j,j < k→SortedIn lt (j * (2 * s)) (j * (2 * s)+2 * s) d
 high:∀j,2 * k≤j→SortedIn lt (j * s) (min (j * s+s) n) d
structure Head (lt:α→α→Bool) (s k a:Nat) (d:Array α):Prop where
 at_:a=k * s
 low:∀j,j < k→SortedIn lt (j * s) (j * s+s) d
def Stab (lt:α→α→Bool) (d d' :Array α):Prop :=
 d'.size=d.size∧SortedIn lt 0 d.size d'∧d'.toList.Perm d.toList∧∀p,Kind lt p→d'.toList.filter p=d.toList.filter p
end
end Go.Proofs.YtflhidfclfkjlaaGreat
namespace Go.Proofs.YtflhidfclfkjlaaGreat
open Go.RowKit Go.Sort
def hinvB (l:List Oper) (n:Nat) (ls:Array Bool):Bool :=
 decide (ls.size=l.length) && (List.range l.length).all (fun j=>match l[j]? with
  | some u=> !ls.getD j false || u.after.all (fun e=> !Region.binds .any e || ls.getD e.on false)
  | none=>true) && (List.range l.length).all (fun t=>decide (t < n) || !ls.getD t true)
theorem hinvB_spec {l:List Oper} {n:Nat} {ls:Array Bool} (h:hinvB l n ls=true):HeadInv .any l.toArray n ls:=by
 simp only [hinvB,Bool.and_eq_true,decide_eq_true_eq] at h
 obtain⟨⟨h1,h2⟩,h3⟩:=h
 refine⟨by simpa using h1,fun j oj hoj hl e he hb=>?_,fun t hnt ht=>?_⟩
 · have hoj' :l[j]? =some oj:=by simpa using hoj
   have k:=List.all_eq_true.1 h2 j (List.mem_range.2 (List.getElem?_eq_some_iff.1 hoj').1)
   rw [hoj'] at k
   simp only [hl,Bool.not_true,Bool.false_or] at k
   have k2:=Array.all_eq_true_iff_forall_mem.1 k e he
   rw [hb] at k2
   simpa using k2
 · have k:=List.all_eq_true.1 h3 t (List.mem_range.2 (by simpa using ht))
   simp only [Bool.or_eq_true,decide_eq_true_eq,Bool.not_eq_true'] at k
   rcases k with k | k
   · omega
   · exact k
theorem wpAny_qtail {P:Program} {l:List Oper} {Q:Exit→Act→World→Prop} {a:Act} {w:World} (n0 n1:Nat) (ls:Array Bool)
 (hB: (Region.noSelect l.toArray && decide (n0≤n1) && decide (n1≤l.length) && hinvB l n1 ls && (List.range (l.length - n1)).all (fun t=>sinkT .any l.toArray n1 (n1+t)) && lexHeadE .any l.toArray (fun ls=>Region.seqB .any l.toArray (l.length - n1) n1 ls) (n1 - n0) n0 ls)=true)
 (h:wpQuiet P l.toArray (fun v=>∃_p:Unit,v=w) (fun a'=>∀v,(∃_p:Unit,v=w)→wpList P l.toArray Q (l.drop n1) a' v) ((l.take n1).drop n0) a):wpAny P .any l.toArray Q (l.length - n0) ls a w:=by
 simp only [Bool.and_eq_true,decide_eq_true_eq] at hB
 obtain⟨⟨⟨⟨⟨hsel,h01⟩,h1l⟩,hinv⟩,hs⟩,hlex⟩:=hB
 have inv:=hinvB_spec hinv
 have ht: ((l.take n1).drop n0).length=n1 - n0:=by simp;omega
 have H:=headQ_lex (C:=fun v=>∃_p:Unit,v=w) (md:=.any) hsel (fun ls inv i hi hun t htt hr=>by
  have htl:t < l.length:=by
   obtain⟨_,ot,hot,_⟩:=mem_ready.1 hr
   have:=(Array.getElem?_eq_some_iff.1 hot).1
   simpa using this
  have k:=List.all_eq_true.1 hs (t - n1) (List.mem_range.2 (by omega))
  rw [show n1+ (t - n1)=t by omega] at k
  exact sinkT_waits k inv (by simpa using h1l) _ i rfl hi hun hr) (fun ls hls=>seqB_ready hls) ((l.take n1).drop n0) n0 ls a (fun j hj=>by
  rw [ht] at hj
  simp [List.getElem?_drop,show n0+j < n1 by omega]) (by omega) inv (by rw [ht];exact hlex) h
 have K:=headQ_any (Q:=Q) (g:=l.length - n1) (fun ls a' w' hw' hL=>by
  have hd: (l.drop n1).length=l.length - n1:=by simp
  have:=wpAny_of_seq (md:=.any) (Q':=Q) (l.drop n1) n1 ls a' w' (fun j=>by simp [List.getElem?_drop]) (by rw [hd];exact hL.1) (hL.2 w' hw')
  rwa [hd] at this) _ _ a w ⟨(),rfl⟩ H
 rw [ht,show n1 - n0+ (l.length - n1)=l.length - n0 by omega] at K
 exact K
end Go.Proofs.YtflhidfclfkjlaaGreat
namespace Go.Proofs.YtflhidfclfkjlaaGreat
open Go.RowKit
theorem millMod_any (n m:Int) (w:World) (hm:m≤4611686018427387904) :
 Calls Tryz.prog 23 #[.int .i64 n,.int .i64 m] w fun e w'=>e=.returned (.int .i64 (modI n m))∧w=w':=by
 go_enter Tryz.func23,Tryz.ntmps23
 go_wp2_with (go_at_call 28;refine(mod_any _ _ _ hm).mono ?_;rintro e w' ⟨rfl,rfl⟩)
 go_ret
 exact⟨rfl,rfl⟩
theorem someTo_yes {d:List Int} {k:Nat} (h:dVal (someTo d k).2 3=0): (someTo d (k+1)).1= (someTo d k).1 ++ [(k:Int)]:=by rw [someTo,if_pos h]
theorem someTo_no {d:List Int} {k:Nat} (h : ¬dVal (someTo d k).2 3=0): (someTo d (k+1)).1= (someTo d k).1:=by rw [someTo,if_neg h,List.append_nil]
theorem someTo_rest {d:List Int} {k:Nat}: (someTo d (k+1)).2= (someTo d k).2.tail:=rfl
set_option maxHeartbeats 400000 in
theorem some_any (N p:Nat) (d:List Int) (n:Int) (w:World) (hd:DiceAt N w p d) (hN:N≤w.heap.size) (h0:0≤n) (hn:n≤100000) :
 Calls Tryz.prog 26 #[.pointer (some ⟨p,0,none⟩),.int .i64 n] w fun e w'=>∃ro rc,e=.returned (.slice ro (someTo d n.toNat).1.length rc)∧
  OwnI w' w.heap.size ro rc (someTo d n.toNat).1∧DiceAt N w' p (someTo d n.toNat).2∧Ex w.heap.size (some p) w w':=by
 obtain⟨m,rfl⟩:=Int.eq_ofNat_of_zero_le h0
 rw [Int.toNat_natCast]
 have hp:=hd.lt
 have hm:m≤100000:=by omega
 go_enter Tryz.func26,Tryz.ntmps26
 go_wp2
 go_loopw [5,6] (fun v i wr=>∃(k:Nat) (ro:Option Addr) (rc:Nat),k≤m∧i=.int .i64 k∧v=.slice ro (someTo d k).1.length rc∧OwnI wr w.heap.size ro rc (someTo d k).1∧DiceAt N wr p (someTo d k).2∧Ex w.heap.size (some p) w wr) (fun _ i _=>m - (intOf i).toNat)
 case atStart=>exact⟨0,none,0,by omega,rfl,rfl,OwnI.nil _ _,hd,Ex.refl _ _ _⟩
 case round=>
  obtain⟨k,ro,rc,hk,rfl,rfl,hown,hdr,hex⟩:=hrel
  have hle:=someTo_le d k
  have hsz:=hex.size
  by_cases hlt:k < m
  · by_cases hv:dVal (someTo d k).2 3=0
    · have HK:=Lib.hid (someTo_yes hv)
      have hb: (dVal (someTo d k).2 3 == 0)=true:=by simpa using hv
      clear hv
      go_wp2_with (first
       | (go_at_call 9;refine(next_any N p _ _ _ hdr (by omega)).mono ?_;rintro e w2 ⟨rfl,hd2,hex2⟩;have hsz2:=hex2.size;have hown2:=hown.keep hex2 (Nat.le_refl _) (fun q e=>by cases e;omega))
       | (at_builtin;refine wpList_appI (w0:=w2) rfl _ _ _ rfl Tryz.underlying22 Tryz.infoInt w.heap.size ro rc _ w2.heap.size k rfl rfl hown2 (Ex.new _ _) (by go_simp) (by omega) (by omega) ?_;intro ro' rc' w1 hown1 hex1))
      go_roundw
      case rel=>exact⟨k+1,ro',rc',by omega,by go_num,by rw [HK.out,List.length_append];rfl,by rw [HK.out];exact hown1,hd2.keep hex1 (by omega),(hex.trans hex2 hsz (fun q e _=>by cases e;rfl)).trans hex1 (Nat.le_refl _) (by simp)⟩
      case measure=>simp [intOf];omega
    · have HK:=Lib.hid (someTo_no hv)
      have hb: (dVal (someTo d k).2 3 == 0)=false:=by simpa using hv
      clear hv
      go_wp2_with (first
       | (go_at_call 9;refine(next_any N p _ _ _ hdr (by omega)).mono ?_;rintro e w2 ⟨rfl,hd2,hex2⟩;have hsz2:=hex2.size;have hown2:=hown.keep hex2 (Nat.le_refl _) (fun q e=>by cases e;omega)))
      go_roundw
      case rel=>exact⟨k+1,ro,rc,by omega,by go_num,by rw [HK.out],by rw [HK.out];exact hown2,by rw [someTo_rest];exact hd2,hex.trans hex2 hsz (fun q e _=>by cases e;rfl)⟩
      case measure=>simp [intOf];omega
  · obtain rfl:k=m:=by omega
    go_wp2
    go_ret
    exact⟨ro,rc,rfl,hown,hdr,hex⟩
set_option maxHeartbeats 400000 in
theorem keys_any (N p:Nat) (d:List Int) (n:Int) (w:World) (hd:DiceAt N w p d) (hN:N≤w.heap.size) (h0:0≤n) (hn:n≤100000) :
 Calls Tryz.prog 25 #[.pointer (some ⟨p,0,none⟩),.int .i64 n] w fun e w'=>∃ro rc,e=.returned (.slice ro (keysD d n).1.length rc)∧
  OwnI w' w.heap.size ro rc (keysD d n).1∧DiceAt N w' p (keysD d n).2∧Ex w.heap.size (some p) w w':=by
 have hp:=hd.lt
 by_cases h: (someTo d n.toNat).1=[]
 · have HK:Hid (keysD d n= ([dVal (someTo d n.toNat).2 n],(someTo d n.toNat).2.tail)):=if_pos h
   have hl: (((someTo d n.toNat).1.length:Int) == 0)=true:=by simp [h]
   clear h
   go_enter Tryz.func25,Tryz.ntmps25
   go_wp2_with (first
    | (go_at_call 26;refine(some_any N p _ _ _ hd hN h0 hn).mono ?_;rintro e w2 ⟨ro,rc,rfl,hown2,hd2,hex2⟩;have hsz2:=hex2.size)
    | (go_at_call 9;refine(next_any N p _ _ _ hd2 (by omega)).mono ?_;rintro e w3 ⟨rfl,hd3,hex3⟩;have hsz3:=hex3.size))
   go_ret
   refine⟨some ⟨w3.heap.size,0,none⟩,1,by rw [HK.out];rfl,?_,by rw [HK.out];exact hd3.keep (Ex.new _ _) (by omega),((hex2.trans hex3 hsz2 (fun q e _=>by cases e;rfl)).alloc (by omega) _)⟩
   rw [HK.out]
   exact own_lit1 w3 (by omega) _
 · have HK:Hid (keysD d n=someTo d n.toNat):=if_neg h
   have hl: (((someTo d n.toNat).1.length:Int) == 0)=false:=by simpa using h
   clear h
   go_enter Tryz.func25,Tryz.ntmps25
   go_wp2_with (first
    | (go_at_call 26;refine(some_any N p _ _ _ hd hN h0 hn).mono ?_;rintro e w2 ⟨ro,rc,rfl,hown2,hd2,hex2⟩;have hsz2:=hex2.size))
   go_ret
   exact⟨ro,rc,by rw [HK.out];rfl,by rw [HK.out];exact hown2,by rw [HK.out];exact hd2,hex2⟩
set_option maxHeartbeats 400000 in
theorem refHas_any (v1:Value) (xs:List Int) (x:Int) (w:World) (hv1:Ints w v1 xs) (hm:xs.length≤9223372036854775807) :
 Calls Tryz.prog 15 #[v1,.int .i64 x] w fun e w'=>e=.returned (.bool (hasI xs x))∧w=w':=by
 obtain⟨ao,cap,rfl,hx⟩:=hv1
 go_enter Tryz.func15,Tryz.ntmps15
 go_wp2
 go_loop [5] (fun i=>∃k:Nat,k≤xs.length∧i=.int .i64 k∧hasI (xs.take k) x=false) (fun i=>xs.length - (intOf i).toNat)
 case atStart=>exact⟨0,Nat.zero_le _,rfl,rfl⟩
 case round=>
  obtain⟨k,hk,rfl,hno⟩:=hrel
  have HN:=Lib.hid hno
  clear hno
  by_cases hlt:k < xs.length
  · obtain⟨b,off,y,rfl,hck,HY⟩:=hx.get k hlt
    by_cases he:y=x
    · have hb: (y == x)=true:=by simpa using he
      have HR:=Lib.hid (hasI_get hlt (HY.out.trans he))
      clear he
      go_wp2
      go_ret
      exact⟨by rw [HR.out];rfl,rfl⟩
    · have hb: (y == x)=false:=by simpa using he
      have HR:=Lib.hid (hasI_take_succ hlt HN.out (by rw [HY.out];exact he))
      clear he
      go_wp2
      go_round
      case rel=>exact⟨k+1,by omega,by go_num,HR.out⟩
      case measure=>simp [intOf];omega
  · have HR:Hid (hasI xs x=false):=by
     have h:=HN.out
     rwa [List.take_of_length_le (by omega)] at h
    go_wp2
    go_ret
    exact⟨by rw [HR.out];rfl,rfl⟩
theorem keysTo_yes {c:Int→Bool} {k:Nat} (h:c k=true):keysTo c (k+1)=keysTo c k ++ [(k:Int)]:=by rw [keysTo,if_pos h]
theorem keysTo_no {c:Int→Bool} {k:Nat} (h:c k=false):keysTo c (k+1)=keysTo c k:=by rw [keysTo,if_neg (by simp [h]),List.append_nil]
set_option maxHeartbeats 400000 in
theorem minus_any (v1 v2:Value) (xs ys:List Int) (w:World) (hv1:Ints w v1 xs) (hv2:Ints w v2 ys) (hm:xs.length≤9223372036854775807) (hm2:ys.length≤9223372036854775807) :
 Calls Tryz.prog 24 #[v1,v2] w fun e w'=>∃ro rc,e=.returned (.slice ro (minusI xs ys).length rc)∧OwnI w' w.heap.size ro rc (minusI xs ys)∧Ex w.heap.size none w w':=by
 obtain⟨ao,cap,rfl,hx⟩:=hv1
 obtain⟨bo,cbp,rfl,hy⟩:=hv2
 go_enter Tryz.func24,Tryz.ntmps24
 go_wp2
 go_loopw [5,6] (fun v i wr=>∃(k:Nat) (ro:Option Addr) (rc:Nat),k≤64∧i=.int .i64 k∧v=.slice ro (keysTo (fun k=>hasI xs k && !hasI ys k) k).length rc∧OwnI wr w.heap.size ro rc (keysTo (fun k=>hasI xs k && !hasI ys k) k)∧Ex w.heap.size none w wr) (fun _ i _=>64 - (intOf i).toNat)
 case atStart=>exact⟨0,none,0,by omega,rfl,rfl,OwnI.nil _ _,Ex.refl _ _ _⟩
 case round=>
  obtain⟨k,ro,rc,hk,rfl,rfl,hown,hex⟩:=hrel
  have hle:=keysTo_le (fun k=>hasI xs k && !hasI ys k) k
  have hsz:=hex.size
  have hx1:=hx.keep hex (Nat.le_refl _) (by simp)
  have hy1:=hy.keep hex (Nat.le_refl _) (by simp)
  by_cases hlt:k < 64
  · by_cases h2:hasI xs (k:Int)=true
    · by_cases h3:hasI ys (k:Int)=true
      · have HK:=Lib.hid (keysTo_no (c:=(fun k=>hasI xs k && !hasI ys k)) (k:=k) (by simp [h3]))
        go_wp2_with (first
         | (go_at_call 15;refine(refHas_any _ _ _ _ (by first | exact⟨_,_,rfl,hx1⟩ | exact⟨_,_,rfl,hy1⟩) (by first | exact hm | exact hm2)).mono ?_;rintro e w' ⟨rfl,rfl⟩)
         | (at_builtin;refine wpList_appI rfl _ _ _ rfl Tryz.underlying22 Tryz.infoInt w.heap.size ro rc _ wr.heap.size k rfl rfl hown (Ex.new _ _) (by go_simp) (by omega) hsz ?_;intro ro' rc' w1 hown1 hex1))
        go_roundw
        case rel=>exact⟨k+1,ro,rc,by omega,by go_num,by rw [HK.out],by rw [HK.out];exact hown,hex⟩
        case measure=>simp [intOf];omega
      · replace h3:hasI ys (k:Int)=false:=by simpa using h3
        have HK:=Lib.hid (keysTo_yes (c:=(fun k=>hasI xs k && !hasI ys k)) (k:=k) (by simp [h2,h3]))
        go_wp2_with (first
         | (go_at_call 15;refine(refHas_any _ _ _ _ (by first | exact⟨_,_,rfl,hx1⟩ | exact⟨_,_,rfl,hy1⟩) (by first | exact hm | exact hm2)).mono ?_;rintro e w' ⟨rfl,rfl⟩)
         | (at_builtin;refine wpList_appI rfl _ _ _ rfl Tryz.underlying22 Tryz.infoInt w.heap.size ro rc _ wr.heap.size k rfl rfl hown (Ex.new _ _) (by go_simp) (by omega) hsz ?_;intro ro' rc' w1 hown1 hex1))
        go_roundw
        case rel=>exact⟨k+1,ro',rc',by omega,by go_num,by rw [HK.out,List.length_append];rfl,by rw [HK.out];exact hown1,hex.trans hex1 (Nat.le_refl _) (by simp)⟩
        case measure=>simp [intOf];omega
    · replace h2:hasI xs (k:Int)=false:=by simpa using h2
      have HK:=Lib.hid (keysTo_no (c:=(fun k=>hasI xs k && !hasI ys k)) (k:=k) (by simp [h2]))
      go_wp2_with (first
       | (go_at_call 15;refine(refHas_any _ _ _ _ (by first | exact⟨_,_,rfl,hx1⟩ | exact⟨_,_,rfl,hy1⟩) (by first | exact hm | exact hm2)).mono ?_;rintro e w' ⟨rfl,rfl⟩)
       | (at_builtin;refine wpList_appI rfl _ _ _ rfl Tryz.underlying22 Tryz.infoInt w.heap.size ro rc _ wr.heap.size k rfl rfl hown (Ex.new _ _) (by go_simp) (by omega) hsz ?_;intro ro' rc' w1 hown1 hex1))
      go_roundw
      case rel=>exact⟨k+1,ro,rc,by omega,by go_num,by rw [HK.out],by rw [HK.out];exact hown,hex⟩
      case measure=>simp [intOf];omega
  · obtain rfl:k=64:=by omega
    go_wp2
    go_ret
    exact⟨ro,rc,rfl,hown,hex⟩
end Go.Proofs.YtflhidfclfkjlaaGreat

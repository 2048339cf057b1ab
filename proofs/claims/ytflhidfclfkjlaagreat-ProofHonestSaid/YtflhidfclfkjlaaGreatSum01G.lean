/- ref01.Sum: a contract, no statement of the seat. -/
import Derived.Test.YtflhidfclfkjlaaGreatBlock01G
import Derived.Test.YtflhidfclfkjlaaGreatMg04
import Derived.Deep.Cut
namespace Go.Proofs.YtflhidfclfkjlaaGreat
open Go.RowKit Go.Sort
def lenV:Value→Nat
 | .slice _ n _=>n
 | _=>0
theorem start_lit (w:World) (cs:Array Value) (t:TypeId) (h:cs.toList=flatL wdE startU):SlAt wdRep (fun b=>w.heap.size≤b) (w.alloc (.cells cs t)) (some ⟨w.heap.size,0,none⟩) startU:=val_sl (Nat.le_refl _) (lit_words h)
theorem lit_src {α:Type} {enc:α→List Value} {w:World} {ys:List α} {t:TypeId} {cs:Array Value} (h:cs.toList=flatL enc ys) {g:Nat} (hg:g=w.heap.size):ys.length=0∨∃ad,(some ⟨g,0,none⟩:Option Addr)=some ad∧∀(j:Nat) (v:Value),(flatL enc ys)[j]? =some v→(w.alloc (.cells cs t)).cell? (ad.add j)=some v:=by
 subst hg
 refine Or.inr ⟨_,rfl,fun j v hv=>?_⟩
 rw [Addr.add_lit,Nat.zero_add,cell_of_row _ _ _ _ _ _ (heap_alloc_new w _)]
 rw [←h] at hv
 simpa using hv
theorem u_b24 (x:UInt32):IntKind.u8.wrap ((x.toNat:Int) / 16777216)= ((x >>> 24).toUInt8.toNat:Int):=by
 have h:=u_shr x 24 (by omega)
 rw [show(2:Int) ^ 24=16777216 by decide] at h
 rw [IntKind.wrap_u8,UInt32.toNat_toUInt8,Int.natCast_emod,h];rfl
theorem u_b16 (x:UInt32):IntKind.u8.wrap ((x.toNat:Int) / 65536)= ((x >>> 16).toUInt8.toNat:Int):=by
 have h:=u_shr x 16 (by omega)
 rw [show(2:Int) ^ 16=65536 by decide] at h
 rw [IntKind.wrap_u8,UInt32.toNat_toUInt8,Int.natCast_emod,h];rfl
theorem u_b8 (x:UInt32):IntKind.u8.wrap ((x.toNat:Int) / 256)= ((x >>> 8).toUInt8.toNat:Int):=by
 have h:=u_shr x 8 (by omega)
 rw [show(2:Int) ^ 8=256 by decide] at h
 rw [IntKind.wrap_u8,UInt32.toNat_toUInt8,Int.natCast_emod,h];rfl
theorem u_b0 (x:UInt32):IntKind.u8.wrap (x.toNat:Int)= (x.toUInt8.toNat:Int):=by
 rw [IntKind.wrap_u8,UInt32.toNat_toUInt8,Int.natCast_emod];rfl
theorem u_bytes (x:UInt32):flatL byE (bytesU x)=[.int .u8 (IntKind.u8.wrap ((x.toNat:Int) / 16777216)),.int .u8 (IntKind.u8.wrap ((x.toNat:Int) / 65536)),.int .u8 (IntKind.u8.wrap ((x.toNat:Int) / 256)),.int .u8 (IntKind.u8.wrap (x.toNat:Int))]:=by
 rw [u_b24,u_b16,u_b8,u_b0];rfl
set_option maxHeartbeats 8000000 in
set_option maxRecDepth 100000 in
theorem sum01_any {P:Nat→Prop} (v:Value) (b:List UInt8) (w:World) (hv:Sl byRep P w v b) (hm:b.length≤5000000) :
 Calls Tryz.prog 85 #[v] w fun e w'=>e=.returned (.string (sha b))∧Ex w.heap.size none w w':=by
 obtain⟨ao,cap,rfl,hx⟩:=hv
 obtain⟨m,hml⟩:∃m,m=b.length:=⟨_,rfl⟩
 have HML:=Lib.hid hml
 rw [←hml] at hm ⊢
 clear hml
 obtain⟨w0,hw0⟩:∃w0:World,w0=w.alloc (.cells #[.int .u32 1779033703,.int .u32 3144134277,.int .u32 1013904242,.int .u32 2773480762,.int .u32 1359893119,.int .u32 2600822924,.int .u32 528734635,.int .u32 1541459225] 143):=⟨_,rfl⟩
 have HS0:Hid (SlAt wdRep (fun b=>w.heap.size≤b) w0 (some ⟨w.heap.size,0,none⟩) startU):=by rw [hw0];exact start_lit w _ _ rfl
 have HE0:Hid (Ex w.heap.size none w w0):=by rw [hw0];exact Ex.new w _
 have hz0:w.heap.size < w0.heap.size:=by rw [hw0];simp
 have HSRC:=Lib.hid (val_cells (by decide) (hx.keep (w':=w0) (by decide) (fun q _ hq=>HE0.out.block q hq (by simp))))
 have HN:Hid (OwnB w0 w0.heap.size none 0 []):=OwnE.nil _ _ _ _ _
 clear hx
 go_enter Tryz.func85,Tryz.ntmps85
 go_upto_region 2 with(fail)
 rw [←hw0]
 clear hw0
 go_wp2_with (first
  | (at_builtin;refine wpList_appE2 rfl (.const (.slice none 0 0)) (.tmp 12) _ 5 (by rfl) Tryz.underlying79 _ 1 1 Tryz.infoB rfl (by decide) (by decide) byE byE_len one_byE w0.heap.size none 0 0 [] rfl (by rfl) ao m cap (by rfl) b HML.out.symm HN.out HSRC.out (by omega) (Nat.le_refl _) m (by omega) ?_;intro ro rc w1 hown hex _ _;have HO1:Hid (OwnB w1 w0.heap.size ro rc b):=hown;have HE1:=Lib.hid hex;have hz1:=hex.size;clear hown hex)
  | (at_builtin;refine wpList_appE2 rfl (.tmp 13) (.tmp 14) _ 5 (by rfl) Tryz.underlying79 _ 1 1 Tryz.infoB rfl (by decide) (by decide) byE byE_len one_byE w0.heap.size ro rc m b HML.out.symm (by rfl) (some ⟨w1.heap.size,0,none⟩) 1 1 (by rfl) [128] rfl (HO1.out.keep (Ex.new w1 _) (Nat.le_refl _) (by simp)) (lit_cells (by rfl)) (by omega) (by simp;omega) (m+1) (by omega) ?_;intro ro2 rc2 w2 hown2 hex2 _ _;have HO2:Hid (OwnB w2 w0.heap.size ro2 rc2 (b ++ [128])):=hown2;have HE2:Hid (Ex w0.heap.size none w0 w2):=(HE1.out.trans (Ex.new w1 _) hz1 (by simp)).trans hex2 (Nat.le_refl _) (by simp);clear hown2 hex2))
 have HP:Hid ((m+1+padN (m+1)) % 64=56∧∀j,j < padN (m+1)→(m+1+j) % 64≠56):=padN_spec (m+1)
 have hz64:padN (m+1) < 64:=Nat.mod_lt _ (by omega)
 obtain⟨z,hz⟩:∃z,z=padN (m+1):=⟨_,rfl⟩
 rw [←hz] at HP hz64
 have HZ:=Lib.hid hz
 clear hz HSRC
 go_loopw [4] (fun v wr=>∃(j:Nat) (ro:Option Addr) (rc:Nat),j≤z∧v=.slice ro (m+1+j) rc∧OwnB wr w0.heap.size ro rc (b ++ [128] ++ List.replicate j 0)∧Ex w0.heap.size none w0 wr) (fun v _=>m+1+z - lenV v)
 case atStart=>exact⟨0,ro2,rc2,by omega,rfl,by simpa using HO2.out,HE2.out⟩
 case round=>
  obtain⟨j,ro,rc,hj,rfl,hown,hex⟩:=hrel
  have hsz:=hex.size
  have HO:=Lib.hid hown
  have HE:=Lib.hid hex
  clear hown hex
  by_cases hjz:j < z
  · have hne:=HP.out.2 j hjz
    have hd: (((m:Int)+1+ (j:Int)) % 64 != 56)=true:=by simp;omega
    clear hne
    go_wp2_with (at_builtin;refine wpList_appE2 rfl (.tmp 20) (.tmp 21) _ 5 (by rfl) Tryz.underlying79 _ 1 1 Tryz.infoB rfl (by decide) (by decide) byE byE_len one_byE w0.heap.size ro rc (m+1+j) (b ++ [128] ++ List.replicate j 0) (by rw [List.length_append,List.length_append,List.length_replicate,←HML.out];rfl) (by rfl) (some ⟨wr.heap.size,0,none⟩) 1 1 (by rfl) [0] rfl (HO.out.keep (Ex.new wr _) (Nat.le_refl _) (by simp)) (lit_cells (by rfl)) (by omega) (by simp;omega) (m+1+ (j+1)) (by omega) ?_;intro ro3 rc3 w3 hown3 hex3 _ _)
    have HO3:Hid (OwnB w3 w0.heap.size ro3 rc3 (b ++ [128] ++ List.replicate (j+1) 0)):=by
     have h:OwnB w3 w0.heap.size ro3 rc3 (b ++ [128] ++ List.replicate j 0 ++ [0]):=hown3
     rw [List.append_assoc,←List.replicate_succ'] at h;exact h
    have HE3:Hid (Ex w0.heap.size none w0 w3):=(HE.out.trans (Ex.new wr _) hsz (by simp)).trans hex3 (Nat.le_refl _) (by simp)
    clear hown3 hex3
    go_roundw
    case rel=>exact⟨j+1,ro3,rc3,by omega,rfl,HO3.out,HE3.out⟩
    case measure=>simp [lenV] <;> omega
  · have hjz' :j=z:=by omega
    have hd: (((m:Int)+1+ (j:Int)) % 64 != 56)=false:=by have:=HP.out.1;simp;omega
    have HJ:=Lib.hid hjz'
    rw [hjz'] at HO
    have HV:Hid (m+1+j=m+1+z):=(show _=_ by rw [hjz'])
    obtain⟨M0,hM0⟩:∃M0,M0=b ++ [128] ++ List.replicate z 0:=⟨_,rfl⟩
    have HM0:Hid (M0.length=m+1+z∧M0 ++ len8 m=padded b):=by
     rw [hM0]
     refine⟨by rw [List.length_append,List.length_append,List.length_replicate,←HML.out];rfl,?_⟩
     rw [HZ.out,HML.out];rfl
    rw [←hM0] at HO
    clear hM0 hjz' hjz
    go_wp2_with fail
    obtain⟨w5,hw5⟩:∃w5,w5=wr:=⟨_,rfl⟩
    subst hw5
    go_loopw [4,6] (fun v i wr=>∃(k:Nat) (ro:Option Addr) (rc:Nat),k≤8∧i=.int .i64 (7 - (k:Int))∧v=.slice ro (m+1+z+k) rc∧OwnB wr w0.heap.size ro rc (M0 ++ (len8 m).take k)∧Ex w0.heap.size none w0 wr) (fun _ i _=>(intOf i+1).toNat)
    case atStart=>exact⟨0,ro,rc,by omega,rfl,by rw [HV.out];rfl,by simpa using HO.out,HE.out⟩
    case round=>
     clear HO HE hd
     obtain⟨k,ro,rc,hk,rfl,rfl,hown,hex⟩:=hrel
     have hsz:=hex.size
     have HO:=Lib.hid hown
     have HE:=Lib.hid hex
     clear hown hex
     rcases(by omega:k=0∨k=1∨k=2∨k=3∨k=4∨k=5∨k=6∨k=7∨k=8) with rfl | rfl | rfl | rfl | rfl | rfl | rfl | rfl | hk8
     · go_wp2_with (at_builtin;refine wpList_appE2 rfl (.tmp 31) (.tmp 38) _ 5 (by rfl) Tryz.underlying79 _ 1 1 Tryz.infoB rfl (by decide) (by decide) byE byE_len one_byE w0.heap.size ro rc (m+1+z) (M0 ++ (len8 m).take 0) (by rw [List.length_append,HM0.out.1];rfl) (by rfl) (some ⟨wr.heap.size,0,none⟩) 1 1 (by rfl) [by8 ((m:Int) * 8 / 72057594037927936)] rfl (HO.out.keep (Ex.new wr _) (Nat.le_refl _) (by simp)) (lit_cells (by simp [byE,by8_toNat] <;> omega)) (by omega) (by simp;omega) (m+1+z+1) (by omega) ?_;intro ro2 rc2 w1 hown hex _ _)
       have HO2:Hid (OwnB w1 w0.heap.size ro2 rc2 (M0 ++ (len8 m).take 1)):=by
        have h:OwnB w1 w0.heap.size ro2 rc2 (M0 ++ (len8 m).take 0 ++ [by8 ((m:Int) * 8 / 72057594037927936)]):=hown
        rw [List.append_assoc] at h;exact h
       have HE2:Hid (Ex w0.heap.size none w0 w1):=(HE.out.trans (Ex.new wr _) hsz (by simp)).trans hex (Nat.le_refl _) (by simp)
       clear hown hex
       go_roundw
       case rel=>exact⟨1,ro2,rc2,by omega,by first | rfl | go_num,rfl,HO2.out,HE2.out⟩
       case measure=>simp [intOf]
     · go_wp2_with (at_builtin;refine wpList_appE2 rfl (.tmp 31) (.tmp 38) _ 5 (by rfl) Tryz.underlying79 _ 1 1 Tryz.infoB rfl (by decide) (by decide) byE byE_len one_byE w0.heap.size ro rc (m+1+z+1) (M0 ++ (len8 m).take 1) (by rw [List.length_append,HM0.out.1];rfl) (by rfl) (some ⟨wr.heap.size,0,none⟩) 1 1 (by rfl) [by8 ((m:Int) * 8 / 281474976710656)] rfl (HO.out.keep (Ex.new wr _) (Nat.le_refl _) (by simp)) (lit_cells (by simp [byE,by8_toNat] <;> omega)) (by omega) (by simp;omega) (m+1+z+2) (by omega) ?_;intro ro2 rc2 w1 hown hex _ _)
       have HO2:Hid (OwnB w1 w0.heap.size ro2 rc2 (M0 ++ (len8 m).take 2)):=by
        have h:OwnB w1 w0.heap.size ro2 rc2 (M0 ++ (len8 m).take 1 ++ [by8 ((m:Int) * 8 / 281474976710656)]):=hown
        rw [List.append_assoc] at h;exact h
       have HE2:Hid (Ex w0.heap.size none w0 w1):=(HE.out.trans (Ex.new wr _) hsz (by simp)).trans hex (Nat.le_refl _) (by simp)
       clear hown hex
       go_roundw
       case rel=>exact⟨2,ro2,rc2,by omega,by first | rfl | go_num,rfl,HO2.out,HE2.out⟩
       case measure=>simp [intOf]
     · go_wp2_with (at_builtin;refine wpList_appE2 rfl (.tmp 31) (.tmp 38) _ 5 (by rfl) Tryz.underlying79 _ 1 1 Tryz.infoB rfl (by decide) (by decide) byE byE_len one_byE w0.heap.size ro rc (m+1+z+2) (M0 ++ (len8 m).take 2) (by rw [List.length_append,HM0.out.1];rfl) (by rfl) (some ⟨wr.heap.size,0,none⟩) 1 1 (by rfl) [by8 ((m:Int) * 8 / 1099511627776)] rfl (HO.out.keep (Ex.new wr _) (Nat.le_refl _) (by simp)) (lit_cells (by simp [byE,by8_toNat] <;> omega)) (by omega) (by simp;omega) (m+1+z+3) (by omega) ?_;intro ro2 rc2 w1 hown hex _ _)
       have HO2:Hid (OwnB w1 w0.heap.size ro2 rc2 (M0 ++ (len8 m).take 3)):=by
        have h:OwnB w1 w0.heap.size ro2 rc2 (M0 ++ (len8 m).take 2 ++ [by8 ((m:Int) * 8 / 1099511627776)]):=hown
        rw [List.append_assoc] at h;exact h
       have HE2:Hid (Ex w0.heap.size none w0 w1):=(HE.out.trans (Ex.new wr _) hsz (by simp)).trans hex (Nat.le_refl _) (by simp)
       clear hown hex
       go_roundw
       case rel=>exact⟨3,ro2,rc2,by omega,by first | rfl | go_num,rfl,HO2.out,HE2.out⟩
       case measure=>simp [intOf]
     · go_wp2_with (at_builtin;refine wpList_appE2 rfl (.tmp 31) (.tmp 38) _ 5 (by rfl) Tryz.underlying79 _ 1 1 Tryz.infoB rfl (by decide) (by decide) byE byE_len one_byE w0.heap.size ro rc (m+1+z+3) (M0 ++ (len8 m).take 3) (by rw [List.length_append,HM0.out.1];rfl) (by rfl) (some ⟨wr.heap.size,0,none⟩) 1 1 (by rfl) [by8 ((m:Int) * 8 / 4294967296)] rfl (HO.out.keep (Ex.new wr _) (Nat.le_refl _) (by simp)) (lit_cells (by simp [byE,by8_toNat] <;> omega)) (by omega) (by simp;omega) (m+1+z+4) (by omega) ?_;intro ro2 rc2 w1 hown hex _ _)
       have HO2:Hid (OwnB w1 w0.heap.size ro2 rc2 (M0 ++ (len8 m).take 4)):=by
        have h:OwnB w1 w0.heap.size ro2 rc2 (M0 ++ (len8 m).take 3 ++ [by8 ((m:Int) * 8 / 4294967296)]):=hown
        rw [List.append_assoc] at h;exact h
       have HE2:Hid (Ex w0.heap.size none w0 w1):=(HE.out.trans (Ex.new wr _) hsz (by simp)).trans hex (Nat.le_refl _) (by simp)
       clear hown hex
       go_roundw
       case rel=>exact⟨4,ro2,rc2,by omega,by first | rfl | go_num,rfl,HO2.out,HE2.out⟩
       case measure=>simp [intOf]
     · go_wp2_with (at_builtin;refine wpList_appE2 rfl (.tmp 31) (.tmp 38) _ 5 (by rfl) Tryz.underlying79 _ 1 1 Tryz.infoB rfl (by decide) (by decide) byE byE_len one_byE w0.heap.size ro rc (m+1+z+4) (M0 ++ (len8 m).take 4) (by rw [List.length_append,HM0.out.1];rfl) (by rfl) (some ⟨wr.heap.size,0,none⟩) 1 1 (by rfl) [by8 ((m:Int) * 8 / 16777216)] rfl (HO.out.keep (Ex.new wr _) (Nat.le_refl _) (by simp)) (lit_cells (by simp [byE,by8_toNat] <;> omega)) (by omega) (by simp;omega) (m+1+z+5) (by omega) ?_;intro ro2 rc2 w1 hown hex _ _)
       have HO2:Hid (OwnB w1 w0.heap.size ro2 rc2 (M0 ++ (len8 m).take 5)):=by
        have h:OwnB w1 w0.heap.size ro2 rc2 (M0 ++ (len8 m).take 4 ++ [by8 ((m:Int) * 8 / 16777216)]):=hown
        rw [List.append_assoc] at h;exact h
       have HE2:Hid (Ex w0.heap.size none w0 w1):=(HE.out.trans (Ex.new wr _) hsz (by simp)).trans hex (Nat.le_refl _) (by simp)
       clear hown hex
       go_roundw
       case rel=>exact⟨5,ro2,rc2,by omega,by first | rfl | go_num,rfl,HO2.out,HE2.out⟩
       case measure=>simp [intOf]
     · go_wp2_with (at_builtin;refine wpList_appE2 rfl (.tmp 31) (.tmp 38) _ 5 (by rfl) Tryz.underlying79 _ 1 1 Tryz.infoB rfl (by decide) (by decide) byE byE_len one_byE w0.heap.size ro rc (m+1+z+5) (M0 ++ (len8 m).take 5) (by rw [List.length_append,HM0.out.1];rfl) (by rfl) (some ⟨wr.heap.size,0,none⟩) 1 1 (by rfl) [by8 ((m:Int) * 8 / 65536)] rfl (HO.out.keep (Ex.new wr _) (Nat.le_refl _) (by simp)) (lit_cells (by simp [byE,by8_toNat] <;> omega)) (by omega) (by simp;omega) (m+1+z+6) (by omega) ?_;intro ro2 rc2 w1 hown hex _ _)
       have HO2:Hid (OwnB w1 w0.heap.size ro2 rc2 (M0 ++ (len8 m).take 6)):=by
        have h:OwnB w1 w0.heap.size ro2 rc2 (M0 ++ (len8 m).take 5 ++ [by8 ((m:Int) * 8 / 65536)]):=hown
        rw [List.append_assoc] at h;exact h
       have HE2:Hid (Ex w0.heap.size none w0 w1):=(HE.out.trans (Ex.new wr _) hsz (by simp)).trans hex (Nat.le_refl _) (by simp)
       clear hown hex
       go_roundw
       case rel=>exact⟨6,ro2,rc2,by omega,by first | rfl | go_num,rfl,HO2.out,HE2.out⟩
       case measure=>simp [intOf]
     · go_wp2_with (at_builtin;refine wpList_appE2 rfl (.tmp 31) (.tmp 38) _ 5 (by rfl) Tryz.underlying79 _ 1 1 Tryz.infoB rfl (by decide) (by decide) byE byE_len one_byE w0.heap.size ro rc (m+1+z+6) (M0 ++ (len8 m).take 6) (by rw [List.length_append,HM0.out.1];rfl) (by rfl) (some ⟨wr.heap.size,0,none⟩) 1 1 (by rfl) [by8 ((m:Int) * 8 / 256)] rfl (HO.out.keep (Ex.new wr _) (Nat.le_refl _) (by simp)) (lit_cells (by simp [byE,by8_toNat] <;> omega)) (by omega) (by simp;omega) (m+1+z+7) (by omega) ?_;intro ro2 rc2 w1 hown hex _ _)
       have HO2:Hid (OwnB w1 w0.heap.size ro2 rc2 (M0 ++ (len8 m).take 7)):=by
        have h:OwnB w1 w0.heap.size ro2 rc2 (M0 ++ (len8 m).take 6 ++ [by8 ((m:Int) * 8 / 256)]):=hown
        rw [List.append_assoc] at h;exact h
       have HE2:Hid (Ex w0.heap.size none w0 w1):=(HE.out.trans (Ex.new wr _) hsz (by simp)).trans hex (Nat.le_refl _) (by simp)
       clear hown hex
       go_roundw
       case rel=>exact⟨7,ro2,rc2,by omega,by first | rfl | go_num,rfl,HO2.out,HE2.out⟩
       case measure=>simp [intOf]
     · go_wp2_with (at_builtin;refine wpList_appE2 rfl (.tmp 31) (.tmp 38) _ 5 (by rfl) Tryz.underlying79 _ 1 1 Tryz.infoB rfl (by decide) (by decide) byE byE_len one_byE w0.heap.size ro rc (m+1+z+7) (M0 ++ (len8 m).take 7) (by rw [List.length_append,HM0.out.1];rfl) (by rfl) (some ⟨wr.heap.size,0,none⟩) 1 1 (by rfl) [by8 ((m:Int) * 8)] rfl (HO.out.keep (Ex.new wr _) (Nat.le_refl _) (by simp)) (lit_cells (by simp [byE,by8_toNat] <;> omega)) (by omega) (by simp;omega) (m+1+z+8) (by omega) ?_;intro ro2 rc2 w1 hown hex _ _)
       have HO2:Hid (OwnB w1 w0.heap.size ro2 rc2 (M0 ++ (len8 m).take 8)):=by
        have h:OwnB w1 w0.heap.size ro2 rc2 (M0 ++ (len8 m).take 7 ++ [by8 ((m:Int) * 8)]):=hown
        rw [List.append_assoc] at h;exact h
       have HE2:Hid (Ex w0.heap.size none w0 w1):=(HE.out.trans (Ex.new wr _) hsz (by simp)).trans hex (Nat.le_refl _) (by simp)
       clear hown hex
       go_roundw
       case rel=>exact⟨8,ro2,rc2,by omega,by first | rfl | go_num,rfl,HO2.out,HE2.out⟩
       case measure=>simp [intOf]
     · have hnl : ¬(k:Int)≤7:=by omega
       obtain⟨n,hn⟩:∃n,n=m+1+z+k:=⟨_,rfl⟩
       have HNL:Hid (n= (padded b).length):=(show _=_ by rw [hn,←HM0.out.2,List.length_append,HM0.out.1,len8_len,hk8])
       have HOM:Hid (OwnB wr w0.heap.size ro rc (padded b)):=by
        have h:=HO.out
        rw [hk8,List.take_of_length_le (by simp [len8_len]),HM0.out.2] at h;exact h
       have hn64:n % 64=0:=by rw [HNL.out];exact padded_mod b
       have hnm:n≤6000000:=by omega
       rw [←hn]
       clear hn hk8 HO
       have HOM' :Hid (∃gm,ro=some ⟨gm,0,none⟩∧w0.heap.size≤gm∧gm < wr.heap.size∧n≤rc):=by
        rcases HOM.out.cases with⟨_,_,h0⟩ | ⟨g,e,h1,h2,h3⟩
        · exfalso
          have:=HM0.out.2
          rw [h0] at this
          have h1: (M0 ++ len8 m).length=0:=by rw [this];rfl
          rw [List.length_append,len8_len] at h1;omega
        · exact⟨g,e,h1,h2,by rw [HNL.out];exact h3⟩
       obtain⟨gm,rfl,hg1,hg2,hnc⟩:=HOM'.out
       clear HOM'
       have HSM:Hid (SlAt byRep (fun b=>w0.heap.size≤b) wr (some ⟨gm,0,none⟩) (padded b)):=val_sl hg1 (HOM.out.holds byE_len)
       go_upto_region 10 with(fail)
       go_wp2_with fail
       refine(const01_any _).mono ?_
       rintro e wc ⟨rfl,hkc,hexc⟩
       have HKC:=Lib.hid hkc
       have HEC:Hid (Ex w0.heap.size none w0 wc):=HE.out.trans hexc hsz (by simp)
       have hzc:=hexc.size
       have HSM2:Hid (SlAt byRep (fun _=>True) wc (some ⟨gm,0,none⟩) (padded b)):=(HSM.out.keep (by decide) (fun q _ hq=>hexc.block q hq (by simp))).mono (by decide) (fun _ _ _=>trivial)
       have HSS:Hid (SlAt wdRep (fun b=>w.heap.size≤b) wc (some ⟨w.heap.size,0,none⟩) startU):=HS0.out.keep (by decide) (fun q _ hq=>HEC.out.block q hq (by simp))
       clear hkc hexc HSM HOM HE
       go_wp2_with fail
       obtain⟨w6,hw6⟩:∃w6,w6=wr:=⟨_,rfl⟩
       subst hw6
       go_loopw [3,8] (fun v i wr=>∃(q:Nat) (ho:Option Addr) (hc:Nat),64 * q≤n∧i=.int .i64 ((64 * q:Nat):Int)∧v=.slice ho 8 hc∧SlAt wdRep (fun b=>w.heap.size≤b) wr ho (blocks (padded b) q)∧Ex wc.heap.size none wc wr) (fun _ i _=>n - (intOf i).toNat)
       case atStart=>exact⟨0,some ⟨w.heap.size,0,none⟩,8,by omega,rfl,rfl,HSS.out,Ex.refl _ _ _⟩
       case round=>
        clear HSS
        obtain⟨q,ho,hc,hq,rfl,rfl,hhs,hex⟩:=hrel
        have hsz2:=hex.size
        have HHS:=Lib.hid hhs
        have HEX:=Lib.hid hex
        clear hhs hex
        obtain⟨i,hi⟩:∃i,i=64 * q:=⟨_,rfl⟩
        rw [←hi] at hq ⊢
        have HI:=Lib.hid hi
        clear hi
        by_cases hlt:i < n
        · have hi64:i+64≤n:=by have:=HI.out;omega
          have g1: (0:Int)≤(i:Int):=by omega
          have g2: (i:Int)+64≤(rc:Int):=by omega
          have g3: (i:Int) < (rc:Int):=by omega
          have hic : ¬rc=i:=by omega
          have HBL:Hid (SlAt byRep (fun _=>True) wr (some ⟨gm,i,none⟩) (((padded b).drop (64 * q)).take 64)):=by
           have h1:=(HSM2.out.keep (w':=wr) (by decide) (fun q _ hq=>HEX.out.block q hq (by simp))).drop (64 * q)
           have h2:=h1.take 64
           rw [show 0+64 * q * byRep.k=i by rw [HI.out];simp [byRep,valRep]] at h2
           exact h2
          have HBN:Hid ((((padded b).drop (64 * q)).take 64).length=64):=(show _=_ by rw [List.length_take,List.length_drop,←HNL.out,←HI.out];omega)
          have HKW:Hid (SlAt wdRep (fun _=>True) wr _ constU):=(HKC.out.keep (w':=wr) (by decide) (fun q _ hq=>HEX.out.block q hq (by simp))).mono (by decide) (fun _ _ _=>trivial)
          have HHL:Hid ((blocks (padded b) q).length=8):=blocks_len _ _
          go_wp2_with fail
          refine(block01_any (P:=fun _=>True) _ _ _ (blocks (padded b) q) (((padded b).drop (64 * q)).take 64) constU wr ⟨ho,hc,by rw [HHL.out],HHS.out.mono (by decide) (fun _ _ _=>trivial)⟩ ⟨_,_,by rw [HBN.out],HBL.out⟩ ⟨_,_,rfl,HKW.out⟩ HHL.out HBN.out rfl).mono ?_
          rintro e w7 ⟨ro7,rc7,rfl,hs7,hex7⟩
          have HS7:Hid (SlAt wdRep (fun b=>w.heap.size≤b) w7 ro7 (blocks (padded b) (q+1))):=hs7.mono (by decide) (fun b hb _=>by omega)
          have HE7:=Lib.hid hex7
          clear hs7 hex7
          go_wp2
          go_roundw
          case rel=>exact⟨q+1,ro7,rc7,by have:=HI.out;omega,congrArg (Value.int .i64) (by have:=HI.out;omega),rfl,HS7.out,HEX.out.trans HE7.out hsz2 (by simp)⟩
          case measure=>simp [intOf] <;> omega
        · have HQ:Hid (sha b=strOf (outTo (blocks (padded b) q) 8)):=(show _=_ by
           unfold sha
           rw [←HNL.out,show n / 64=q by have:=HI.out;omega])
          obtain⟨H,hH⟩:∃H,H=blocks (padded b) q:=⟨_,rfl⟩
          have HH8:Hid (H.length=8):=(show _=_ by rw [hH];exact blocks_len _ _)
          rw [←hH] at HQ HHS
          clear hH
          have HEW:Hid (Ex w.heap.size none w wr):=(HE0.out.trans HEC.out (by omega) (by simp)).trans HEX.out (by have:=HEC.out.size;omega) (by simp)
          go_wp2_with fail
          obtain⟨w8,hw8⟩:∃w8,w8=wr:=⟨_,rfl⟩
          subst hw8
          go_loopw [9,10] (fun v i wr=>∃(k:Nat) (ro:Option Addr) (rc:Nat),k≤8∧i=.int .i64 k∧v=.slice ro (4 * k) rc∧OwnB wr w8.heap.size ro rc (outTo H k)∧Ex w8.heap.size none w8 wr) (fun _ i _=>8 - (intOf i).toNat)
          case atStart=>exact⟨0,none,0,by omega,rfl,rfl,OwnE.nil _ _ _ _ _,Ex.refl _ _ _⟩
          case round=>
           obtain⟨k,ro,rc,hk,rfl,rfl,hown,hex⟩:=hrel
           have hsz3:=hex.size
           have HO:=Lib.hid hown
           have HE8:=Lib.hid hex
           clear hown hex
           by_cases hk8:k < 8
           · have hkI: (k:Int) < 8:=by omega
             obtain⟨bh,oh,x,rfl,hbh,cx0,hx⟩:=wd_at HHS.out k (by rw [HH8.out];omega)
             have cx:=(World.cell?_of_block (w:=w8) (w':=wr) (a:=⟨bh,oh+k,none⟩) (HE8.out.block bh hbh (by simp))).trans cx0
             have HOT:Hid (outTo H (k+1)=outTo H k ++ bytesU x):=(show _=_ by unfold outTo;rw [List.take_add_one,hx];simp)
             have HOL:Hid ((outTo H k).length=4 * k):=outTo_len _ _ (by rw [HH8.out];omega)
             have HCX:Hid (∀p:ExW wr,p.w'.cell? ⟨bh,oh+k,none⟩=some (.int .u32 x.toNat)):=fun p=>(World.cell?_of_block (w:=wr) (a:=⟨bh,oh+k,none⟩) (p.ex.block bh (by omega) (by simp))).trans cx
             clear hx cx0
             go_wp2_with fail
             go_region_held3 (fun w'=>w'.cell? ⟨bh,oh+k,none⟩=some (.int .u32 x.toNat)) (first | exact HCX.out ⟨_,(Ex.refl _ _ wr).drew⟩ | exact HCX.out ⟨_,(Ex.refl _ _ wr).drew.alloc (Nat.le_refl _) _⟩ | exact HCX.out ⟨_,(Ex.refl _ _ wr).alloc (Nat.le_refl _) _⟩ | exact(World.cell?_of_block (w:=wr) (HE9.out.block bh hbh (by simp))).trans cx | fail)
              (first
                | (go_loud (refine step_appE rfl (.tmp 59) (.tmp 83) _ 5 (by rfl) Tryz.underlying79 _ 1 1 Tryz.infoB rfl (by decide) (by decide) byE byE_len one_byE w8.heap.size ro rc (4 * k) (outTo H k) HOL.out (by rfl) (some ⟨wr.heap.size,0,none⟩) 4 4 (by rfl) (bytesU x) rfl (HO.out.keep (p:=none) ((Ex.refl wr.heap.size none wr).drew.alloc (Nat.le_refl _) _) (Nat.le_refl _) (by simp)) (lit_src (by rw [u_bytes]) rfl) (by omega) (by first | exact Nat.le_trans hsz3 (Ex.size (((Ex.refl wr.heap.size none wr).drew).alloc (Nat.le_refl _) _)) | exact Nat.le_trans hsz3 (Ex.size (((Ex.refl wr.heap.size none wr)).alloc (Nat.le_refl _) _)) | (simp;omega)) (4 * (k+1)) (by omega) ?_)
                   intro ro9 rc9 w9 hown9 hex9 _ _
                   have HO9:Hid (OwnB w9 w8.heap.size ro9 rc9 (outTo H k ++ bytesU x)):=hown9
                   have HE9:Hid (Ex w8.heap.size none wr w9):=(((Ex.refl w8.heap.size none wr).drew.alloc hsz3 _).trans hex9 (Nat.le_refl _) (by simp))
                   clear hown9 hex9)
                | fail)
             go_wp2
             go_roundw
             case rel=>exact⟨k+1,ro9,rc9,by omega,by go_num,rfl,by rw [HOT.out];exact HO9.out,HE8.out.trans HE9.out (Nat.le_refl _) (by simp)⟩
             case measure=>simp [intOf] <;> omega
           · have hk8' :k=8:=by omega
             have hnl8 : ¬(k:Int) < 8:=by omega
             have HOL:Hid ((outTo H k).length=4 * k):=outTo_len _ _ (by rw [HH8.out];omega)
             have hconv:=run_strOf (P:=Tryz.prog) (src:=79) (dst:=9) (HO.out.len rfl HOL.out.symm) Tryz.underlying79 Tryz.underlying5 Tryz.underlying9
             have HK8:Hid (sha b=strOf (outTo H k)):=(show _=_ by rw [HQ.out,hk8'])
             clear hk8'
             go_wp2
             go_ret
             exact⟨by rw [HK8.out];rfl,HEW.out.trans HE8.out (by have:=HEW.out.size;omega) (by simp)⟩
end Go.Proofs.YtflhidfclfkjlaaGreat

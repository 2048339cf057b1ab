/- digest.Sum: a contract, no statement of the seat. -/
import Derived.Test.YtflhidfclfkjlaaGreatBlockPG
import Derived.Test.YtflhidfclfkjlaaGreatSum01G
namespace Go.Proofs.YtflhidfclfkjlaaGreat
open Go.RowKit Go.Sort
theorem row_holds {w:World} {g:Nat} {l:List UInt32} {t:TypeId} (h:w.heap[g]? =some (.cells (flatL wdE l).toArray t (0,0))):HoldsK wdE 1 w g 0 l.toArray :=
 holdsK_flat wdE_len (fun j v hv=>by rw [Nat.zero_add,cell_of_row _ _ _ _ _ _ h];simpa using hv) (fun j _=>by rw [Nat.zero_add];exact frozen_of_row _ _ _ _ _ h)
theorem Tryz.idx8_0 (a0 a1 a2 a3 a4 a5 a6 a7:Value) (w:World): (Instr.index 164 (.agg #[a0,a1,a2,a3,a4,a5,a6,a7]) (.int .i64 0)).run Tryz.prog w=.ok a0 w:=by kernel_rfl
theorem Tryz.idx8_1 (a0 a1 a2 a3 a4 a5 a6 a7:Value) (w:World): (Instr.index 164 (.agg #[a0,a1,a2,a3,a4,a5,a6,a7]) (.int .i64 1)).run Tryz.prog w=.ok a1 w:=by kernel_rfl
theorem Tryz.idx8_2 (a0 a1 a2 a3 a4 a5 a6 a7:Value) (w:World): (Instr.index 164 (.agg #[a0,a1,a2,a3,a4,a5,a6,a7]) (.int .i64 2)).run Tryz.prog w=.ok a2 w:=by kernel_rfl
theorem Tryz.idx8_3 (a0 a1 a2 a3 a4 a5 a6 a7:Value) (w:World): (Instr.index 164 (.agg #[a0,a1,a2,a3,a4,a5,a6,a7]) (.int .i64 3)).run Tryz.prog w=.ok a3 w:=by kernel_rfl
theorem Tryz.idx8_4 (a0 a1 a2 a3 a4 a5 a6 a7:Value) (w:World): (Instr.index 164 (.agg #[a0,a1,a2,a3,a4,a5,a6,a7]) (.int .i64 4)).run Tryz.prog w=.ok a4 w:=by kernel_rfl
theorem Tryz.idx8_5 (a0 a1 a2 a3 a4 a5 a6 a7:Value) (w:World): (Instr.index 164 (.agg #[a0,a1,a2,a3,a4,a5,a6,a7]) (.int .i64 5)).run Tryz.prog w=.ok a5 w:=by kernel_rfl
theorem Tryz.idx8_6 (a0 a1 a2 a3 a4 a5 a6 a7:Value) (w:World): (Instr.index 164 (.agg #[a0,a1,a2,a3,a4,a5,a6,a7]) (.int .i64 6)).run Tryz.prog w=.ok a6 w:=by kernel_rfl
theorem Tryz.idx8_7 (a0 a1 a2 a3 a4 a5 a6 a7:Value) (w:World): (Instr.index 164 (.agg #[a0,a1,a2,a3,a4,a5,a6,a7]) (.int .i64 7)).run Tryz.prog w=.ok a7 w:=by kernel_rfl
def startCells:Array Value:=#[.int .u32 1779033703,.int .u32 3144134277,.int .u32 1013904242,.int .u32 2773480762,.int .u32 1359893119,.int .u32 2600822924,.int .u32 528734635,.int .u32 1541459225]
theorem holdsK_keepP {w w' :World} {g gs B:Nat} {d:Array UInt32} (h:HoldsK wdE 1 w g 0 d) (hx:Ex B (some gs) w w') (hB:g < B) (hg:g < w.heap.size) (hne:g≠gs):HoldsK wdE 1 w' g 0 d :=
 holdsK_keep (by decide) h hg (hx.block g hB (by simp;exact hne))
set_option maxHeartbeats 8000000 in
set_option maxRecDepth 100000 in
theorem sumP_any {P:Nat→Prop} (v:Value) (b:List UInt8) (w:World) (hv:Sl byRep P w v b) (hm:b.length≤5000000) :
 Calls Tryz.prog 102 #[v] w fun e w'=>e=.returned (.string (sha b))∧Ex w.heap.size none w w':=by
 obtain⟨ao,cap,rfl,hx⟩:=hv
 obtain⟨m,hml⟩:∃m,m=b.length:=⟨_,rfl⟩
 have HML:=Lib.hid hml
 rw [←hml] at hm ⊢
 clear hml
 have HSRC:=Lib.hid (val_cells (by decide) hx)
 have HN:Hid (OwnB w w.heap.size none 0 []):=OwnE.nil _ _ _ _ _
 clear hx
 go_enter Tryz.func102,Tryz.ntmps102
 go_wp2_with (first
  | (at_builtin;refine wpList_appE2 rfl (.const (.slice none 0 0)) (.tmp 11) _ 5 (by rfl) Tryz.underlying79 _ 1 1 Tryz.infoB rfl (by decide) (by decide) byE byE_len one_byE w.heap.size none 0 0 [] rfl (by rfl) ao m cap (by rfl) b HML.out.symm HN.out HSRC.out (by omega) (Nat.le_refl _) m (by omega) ?_;intro ro rc w1 hown hex _ _;have HO1:Hid (OwnB w1 w.heap.size ro rc b):=hown;have HE1:=Lib.hid hex;have hz1:=hex.size;clear hown hex)
  | (at_builtin;refine wpList_appE2 rfl (.tmp 12) (.tmp 13) _ 5 (by rfl) Tryz.underlying79 _ 1 1 Tryz.infoB rfl (by decide) (by decide) byE byE_len one_byE w.heap.size ro rc m b HML.out.symm (by rfl) (some ⟨w1.heap.size,0,none⟩) 1 1 (by rfl) [128] rfl (HO1.out.keep (Ex.new w1 _) (Nat.le_refl _) (by simp)) (lit_cells (by rfl)) (by omega) (by simp;omega) (m+1) (by omega) ?_;intro ro2 rc2 w2 hown2 hex2 _ _;have HO2:Hid (OwnB w2 w.heap.size ro2 rc2 (b ++ [128])):=hown2;have HE2:Hid (Ex w.heap.size none w w2):=(HE1.out.trans (Ex.new w1 _) hz1 (by simp)).trans hex2 (Nat.le_refl _) (by simp);clear hown2 hex2))
 have HP:Hid ((m+1+padN (m+1)) % 64=56∧∀j,j < padN (m+1)→(m+1+j) % 64≠56):=padN_spec (m+1)
 have hz64:padN (m+1) < 64:=Nat.mod_lt _ (by omega)
 obtain⟨z,hz⟩:∃z,z=padN (m+1):=⟨_,rfl⟩
 rw [←hz] at HP hz64
 have HZ:=Lib.hid hz
 clear hz HSRC
 go_loopw [3] (fun v wr=>∃(j:Nat) (ro:Option Addr) (rc:Nat),j≤z∧v=.slice ro (m+1+j) rc∧OwnB wr w.heap.size ro rc (b ++ [128] ++ List.replicate j 0)∧Ex w.heap.size none w wr) (fun v _=>m+1+z - lenV v)
 case atStart=>exact⟨0,ro2,rc2,by omega,rfl,by simpa using HO2.out,HE2.out⟩
 case round=>
  obtain⟨j,ro,rc,hj,rfl,hown,hex⟩:=hrel
  have hsz:=hex.size
  have HO:=Lib.hid hown
  have HE:=Lib.hid hex
  clear hown hex
  by_cases hjz:j < z
  · have hne:=HP.out.2 j hjz
    have hd: (((m:Int)+1+ (j:Int)) % 64 != 56)=true:=by simp;omega
    clear hne
    go_wp2_with (at_builtin;refine wpList_appE2 rfl (.tmp 19) (.tmp 20) _ 5 (by rfl) Tryz.underlying79 _ 1 1 Tryz.infoB rfl (by decide) (by decide) byE byE_len one_byE w.heap.size ro rc (m+1+j) (b ++ [128] ++ List.replicate j 0) (by rw [List.length_append,List.length_append,List.length_replicate,←HML.out];rfl) (by rfl) (some ⟨wr.heap.size,0,none⟩) 1 1 (by rfl) [0] rfl (HO.out.keep (Ex.new wr _) (Nat.le_refl _) (by simp)) (lit_cells (by rfl)) (by omega) (by simp;omega) (m+1+ (j+1)) (by omega) ?_;intro ro3 rc3 w3 hown3 hex3 _ _)
    have HO3:Hid (OwnB w3 w.heap.size ro3 rc3 (b ++ [128] ++ List.replicate (j+1) 0)):=by
     have hq:OwnB w3 w.heap.size ro3 rc3 (b ++ [128] ++ List.replicate j 0 ++ [0]):=hown3
     rw [List.append_assoc,←List.replicate_succ'] at hq;exact hq
    have HE3:Hid (Ex w.heap.size none w w3):=(HE.out.trans (Ex.new wr _) hsz (by simp)).trans hex3 (Nat.le_refl _) (by simp)
    clear hown3 hex3
    go_roundw
    case rel=>exact⟨j+1,ro3,rc3,by omega,rfl,HO3.out,HE3.out⟩
    case measure=>simp [lenV] <;> omega
  · have hjz' :j=z:=by omega
    have hd: (((m:Int)+1+ (j:Int)) % 64 != 56)=false:=by have:=HP.out.1;simp;omega
    have HJ:=Lib.hid hjz'
    rw [hjz'] at HO
    have HV:Hid (m+1+j=m+1+z):=(show _=_ by rw [hjz'])
    obtain⟨M0,hM0⟩:∃M0,M0=b ++ [128] ++ List.replicate z 0:=⟨_,rfl⟩
    have HM0:Hid (M0.length=m+1+z∧M0 ++ len8 m=padded b):=by
     rw [hM0]
     refine⟨by rw [List.length_append,List.length_append,List.length_replicate,←HML.out];rfl,?_⟩
     rw [HZ.out,HML.out];rfl
    rw [←hM0] at HO
    clear hM0 hjz' hjz
    go_wp2_with fail
    obtain⟨w5,hw5⟩:∃w5,w5=wr:=⟨_,rfl⟩
    subst hw5
    go_loopw [3,5] (fun v i wr=>∃(k:Nat) (ro:Option Addr) (rc:Nat),k≤8∧i=.int .i64 (56 - 8 * (k:Int))∧v=.slice ro (m+1+z+k) rc∧OwnB wr w.heap.size ro rc (M0 ++ (len8 m).take k)∧Ex w.heap.size none w wr) (fun _ i _=>(intOf i+8).toNat)
    case atStart=>exact⟨0,ro,rc,by omega,rfl,by rw [HV.out];rfl,by simpa using HO.out,HE.out⟩
    case round=>
     clear HO HE hd
     obtain⟨k,ro,rc,hk,rfl,rfl,hown,hex⟩:=hrel
     have hsz:=hex.size
     have HO:=Lib.hid hown
     have HE:=Lib.hid hex
     clear hown hex
     rcases(by omega:k=0∨k=1∨k=2∨k=3∨k=4∨k=5∨k=6∨k=7∨k=8) with rfl | rfl | rfl | rfl | rfl | rfl | rfl | rfl | hk8
     · go_wp2_with (at_builtin;refine wpList_appE2 rfl (.tmp 30) (.tmp 36) _ 5 (by rfl) Tryz.underlying79 _ 1 1 Tryz.infoB rfl (by decide) (by decide) byE byE_len one_byE w.heap.size ro rc (m+1+z) (M0 ++ (len8 m).take 0) (by rw [List.length_append,HM0.out.1];rfl) (by rfl) (some ⟨wr.heap.size,0,none⟩) 1 1 (by rfl) [by8 ((m:Int) * 8 / 72057594037927936)] rfl (HO.out.keep (Ex.new wr _) (Nat.le_refl _) (by simp)) (lit_cells (by simp [byE,by8_toNat] <;> omega)) (by omega) (by simp;omega) (m+1+z+1) (by omega) ?_;intro ro2 rc2 w1 hown hex _ _)
       have HO2:Hid (OwnB w1 w.heap.size ro2 rc2 (M0 ++ (len8 m).take 1)):=by
        have hq:OwnB w1 w.heap.size ro2 rc2 (M0 ++ (len8 m).take 0 ++ [by8 ((m:Int) * 8 / 72057594037927936)]):=hown
        rw [List.append_assoc] at hq;exact hq
       have HE2:Hid (Ex w.heap.size none w w1):=(HE.out.trans (Ex.new wr _) hsz (by simp)).trans hex (Nat.le_refl _) (by simp)
       clear hown hex
       go_roundw
       case rel=>exact⟨1,ro2,rc2,by omega,by first | rfl | go_num,rfl,HO2.out,HE2.out⟩
       case measure=>simp [intOf]
     · go_wp2_with (at_builtin;refine wpList_appE2 rfl (.tmp 30) (.tmp 36) _ 5 (by rfl) Tryz.underlying79 _ 1 1 Tryz.infoB rfl (by decide) (by decide) byE byE_len one_byE w.heap.size ro rc (m+1+z+1) (M0 ++ (len8 m).take 1) (by rw [List.length_append,HM0.out.1];rfl) (by rfl) (some ⟨wr.heap.size,0,none⟩) 1 1 (by rfl) [by8 ((m:Int) * 8 / 281474976710656)] rfl (HO.out.keep (Ex.new wr _) (Nat.le_refl _) (by simp)) (lit_cells (by simp [byE,by8_toNat] <;> omega)) (by omega) (by simp;omega) (m+1+z+2) (by omega) ?_;intro ro2 rc2 w1 hown hex _ _)
       have HO2:Hid (OwnB w1 w.heap.size ro2 rc2 (M0 ++ (len8 m).take 2)):=by
        have hq:OwnB w1 w.heap.size ro2 rc2 (M0 ++ (len8 m).take 1 ++ [by8 ((m:Int) * 8 / 281474976710656)]):=hown
        rw [List.append_assoc] at hq;exact hq
       have HE2:Hid (Ex w.heap.size none w w1):=(HE.out.trans (Ex.new wr _) hsz (by simp)).trans hex (Nat.le_refl _) (by simp)
       clear hown hex
       go_roundw
       case rel=>exact⟨2,ro2,rc2,by omega,by first | rfl | go_num,rfl,HO2.out,HE2.out⟩
       case measure=>simp [intOf]
     · go_wp2_with (at_builtin;refine wpList_appE2 rfl (.tmp 30) (.tmp 36) _ 5 (by rfl) Tryz.underlying79 _ 1 1 Tryz.infoB rfl (by decide) (by decide) byE byE_len one_byE w.heap.size ro rc (m+1+z+2) (M0 ++ (len8 m).take 2) (by rw [List.length_append,HM0.out.1];rfl) (by rfl) (some ⟨wr.heap.size,0,none⟩) 1 1 (by rfl) [by8 ((m:Int) * 8 / 1099511627776)] rfl (HO.out.keep (Ex.new wr _) (Nat.le_refl _) (by simp)) (lit_cells (by simp [byE,by8_toNat] <;> omega)) (by omega) (by simp;omega) (m+1+z+3) (by omega) ?_;intro ro2 rc2 w1 hown hex _ _)
       have HO2:Hid (OwnB w1 w.heap.size ro2 rc2 (M0 ++ (len8 m).take 3)):=by
        have hq:OwnB w1 w.heap.size ro2 rc2 (M0 ++ (len8 m).take 2 ++ [by8 ((m:Int) * 8 / 1099511627776)]):=hown
        rw [List.append_assoc] at hq;exact hq
       have HE2:Hid (Ex w.heap.size none w w1):=(HE.out.trans (Ex.new wr _) hsz (by simp)).trans hex (Nat.le_refl _) (by simp)
       clear hown hex
       go_roundw
       case rel=>exact⟨3,ro2,rc2,by omega,by first | rfl | go_num,rfl,HO2.out,HE2.out⟩
       case measure=>simp [intOf]
     · go_wp2_with (at_builtin;refine wpList_appE2 rfl (.tmp 30) (.tmp 36) _ 5 (by rfl) Tryz.underlying79 _ 1 1 Tryz.infoB rfl (by decide) (by decide) byE byE_len one_byE w.heap.size ro rc (m+1+z+3) (M0 ++ (len8 m).take 3) (by rw [List.length_append,HM0.out.1];rfl) (by rfl) (some ⟨wr.heap.size,0,none⟩) 1 1 (by rfl) [by8 ((m:Int) * 8 / 4294967296)] rfl (HO.out.keep (Ex.new wr _) (Nat.le_refl _) (by simp)) (lit_cells (by simp [byE,by8_toNat] <;> omega)) (by omega) (by simp;omega) (m+1+z+4) (by omega) ?_;intro ro2 rc2 w1 hown hex _ _)
       have HO2:Hid (OwnB w1 w.heap.size ro2 rc2 (M0 ++ (len8 m).take 4)):=by
        have hq:OwnB w1 w.heap.size ro2 rc2 (M0 ++ (len8 m).take 3 ++ [by8 ((m:Int) * 8 / 4294967296)]):=hown
        rw [List.append_assoc] at hq;exact hq
       have HE2:Hid (Ex w.heap.size none w w1):=(HE.out.trans (Ex.new wr _) hsz (by simp)).trans hex (Nat.le_refl _) (by simp)
       clear hown hex
       go_roundw
       case rel=>exact⟨4,ro2,rc2,by omega,by first | rfl | go_num,rfl,HO2.out,HE2.out⟩
       case measure=>simp [intOf]
     · go_wp2_with (at_builtin;refine wpList_appE2 rfl (.tmp 30) (.tmp 36) _ 5 (by rfl) Tryz.underlying79 _ 1 1 Tryz.infoB rfl (by decide) (by decide) byE byE_len one_byE w.heap.size ro rc (m+1+z+4) (M0 ++ (len8 m).take 4) (by rw [List.length_append,HM0.out.1];rfl) (by rfl) (some ⟨wr.heap.size,0,none⟩) 1 1 (by rfl) [by8 ((m:Int) * 8 / 16777216)] rfl (HO.out.keep (Ex.new wr _) (Nat.le_refl _) (by simp)) (lit_cells (by simp [byE,by8_toNat] <;> omega)) (by omega) (by simp;omega) (m+1+z+5) (by omega) ?_;intro ro2 rc2 w1 hown hex _ _)
       have HO2:Hid (OwnB w1 w.heap.size ro2 rc2 (M0 ++ (len8 m).take 5)):=by
        have hq:OwnB w1 w.heap.size ro2 rc2 (M0 ++ (len8 m).take 4 ++ [by8 ((m:Int) * 8 / 16777216)]):=hown
        rw [List.append_assoc] at hq;exact hq
       have HE2:Hid (Ex w.heap.size none w w1):=(HE.out.trans (Ex.new wr _) hsz (by simp)).trans hex (Nat.le_refl _) (by simp)
       clear hown hex
       go_roundw
       case rel=>exact⟨5,ro2,rc2,by omega,by first | rfl | go_num,rfl,HO2.out,HE2.out⟩
       case measure=>simp [intOf]
     · go_wp2_with (at_builtin;refine wpList_appE2 rfl (.tmp 30) (.tmp 36) _ 5 (by rfl) Tryz.underlying79 _ 1 1 Tryz.infoB rfl (by decide) (by decide) byE byE_len one_byE w.heap.size ro rc (m+1+z+5) (M0 ++ (len8 m).take 5) (by rw [List.length_append,HM0.out.1];rfl) (by rfl) (some ⟨wr.heap.size,0,none⟩) 1 1 (by rfl) [by8 ((m:Int) * 8 / 65536)] rfl (HO.out.keep (Ex.new wr _) (Nat.le_refl _) (by simp)) (lit_cells (by simp [byE,by8_toNat] <;> omega)) (by omega) (by simp;omega) (m+1+z+6) (by omega) ?_;intro ro2 rc2 w1 hown hex _ _)
       have HO2:Hid (OwnB w1 w.heap.size ro2 rc2 (M0 ++ (len8 m).take 6)):=by
        have hq:OwnB w1 w.heap.size ro2 rc2 (M0 ++ (len8 m).take 5 ++ [by8 ((m:Int) * 8 / 65536)]):=hown
        rw [List.append_assoc] at hq;exact hq
       have HE2:Hid (Ex w.heap.size none w w1):=(HE.out.trans (Ex.new wr _) hsz (by simp)).trans hex (Nat.le_refl _) (by simp)
       clear hown hex
       go_roundw
       case rel=>exact⟨6,ro2,rc2,by omega,by first | rfl | go_num,rfl,HO2.out,HE2.out⟩
       case measure=>simp [intOf]
     · go_wp2_with (at_builtin;refine wpList_appE2 rfl (.tmp 30) (.tmp 36) _ 5 (by rfl) Tryz.underlying79 _ 1 1 Tryz.infoB rfl (by decide) (by decide) byE byE_len one_byE w.heap.size ro rc (m+1+z+6) (M0 ++ (len8 m).take 6) (by rw [List.length_append,HM0.out.1];rfl) (by rfl) (some ⟨wr.heap.size,0,none⟩) 1 1 (by rfl) [by8 ((m:Int) * 8 / 256)] rfl (HO.out.keep (Ex.new wr _) (Nat.le_refl _) (by simp)) (lit_cells (by simp [byE,by8_toNat] <;> omega)) (by omega) (by simp;omega) (m+1+z+7) (by omega) ?_;intro ro2 rc2 w1 hown hex _ _)
       have HO2:Hid (OwnB w1 w.heap.size ro2 rc2 (M0 ++ (len8 m).take 7)):=by
        have hq:OwnB w1 w.heap.size ro2 rc2 (M0 ++ (len8 m).take 6 ++ [by8 ((m:Int) * 8 / 256)]):=hown
        rw [List.append_assoc] at hq;exact hq
       have HE2:Hid (Ex w.heap.size none w w1):=(HE.out.trans (Ex.new wr _) hsz (by simp)).trans hex (Nat.le_refl _) (by simp)
       clear hown hex
       go_roundw
       case rel=>exact⟨7,ro2,rc2,by omega,by first | rfl | go_num,rfl,HO2.out,HE2.out⟩
       case measure=>simp [intOf]
     · go_wp2_with (at_builtin;refine wpList_appE2 rfl (.tmp 30) (.tmp 36) _ 5 (by rfl) Tryz.underlying79 _ 1 1 Tryz.infoB rfl (by decide) (by decide) byE byE_len one_byE w.heap.size ro rc (m+1+z+7) (M0 ++ (len8 m).take 7) (by rw [List.length_append,HM0.out.1];rfl) (by rfl) (some ⟨wr.heap.size,0,none⟩) 1 1 (by rfl) [by8 ((m:Int) * 8)] rfl (HO.out.keep (Ex.new wr _) (Nat.le_refl _) (by simp)) (lit_cells (by simp [byE,by8_toNat] <;> omega)) (by omega) (by simp;omega) (m+1+z+8) (by omega) ?_;intro ro2 rc2 w1 hown hex _ _)
       have HO2:Hid (OwnB w1 w.heap.size ro2 rc2 (M0 ++ (len8 m).take 8)):=by
        have hq:OwnB w1 w.heap.size ro2 rc2 (M0 ++ (len8 m).take 7 ++ [by8 ((m:Int) * 8)]):=hown
        rw [List.append_assoc] at hq;exact hq
       have HE2:Hid (Ex w.heap.size none w w1):=(HE.out.trans (Ex.new wr _) hsz (by simp)).trans hex (Nat.le_refl _) (by simp)
       clear hown hex
       go_roundw
       case rel=>exact⟨8,ro2,rc2,by omega,by first | rfl | go_num,rfl,HO2.out,HE2.out⟩
       case measure=>simp [intOf]
     · have hnl : ¬(0:Int)≤56 - 8 * (k:Int):=by omega
       have hnl2 : ¬8 * (k:Int)≤56:=by omega
       obtain⟨n,hn⟩:∃n,n=m+1+z+k:=⟨_,rfl⟩
       have HNL:Hid (n= (padded b).length):=(show _=_ by rw [hn,←HM0.out.2,List.length_append,HM0.out.1,len8_len,hk8])
       have HOM:Hid (OwnB wr w.heap.size ro rc (padded b)):=by
        have hq:=HO.out
        rw [hk8,List.take_of_length_le (by simp [len8_len]),HM0.out.2] at hq;exact hq
       have hn64:n % 64=0:=by rw [HNL.out];exact padded_mod b
       have hnm:n≤6000000:=by omega
       rw [←hn]
       clear hn hk8 HO
       have HOM' :Hid (∃gm,ro=some ⟨gm,0,none⟩∧w.heap.size≤gm∧gm < wr.heap.size∧n≤rc):=by
        rcases HOM.out.cases with⟨_,_,h0⟩ | ⟨g,e,h1,h2,h3⟩
        · exfalso
          have:=HM0.out.2
          rw [h0] at this
          have h1: (M0 ++ len8 m).length=0:=by rw [this];rfl
          rw [List.length_append,len8_len] at h1;omega
        · exact⟨g,e,h1,h2,by rw [HNL.out];exact h3⟩
       obtain⟨gm,rfl,hg1,hg2,hnc⟩:=HOM'.out
       clear HOM'
       have HSM:Hid (SlAt byRep (fun b=>w.heap.size≤b) wr (some ⟨gm,0,none⟩) (padded b)):=val_sl hg1 (HOM.out.holds byE_len)
       go_upto_region 9 with(fail)
       go_upto_region 10 with(first
        | (go_at_call 129
           refine(roundsP_any _).mono ?_
           rintro e wc ⟨rfl,hexc⟩
           have HEC:Hid (Ex w.heap.size none w wc∧Ex wr.heap.size none wr wc):=Lib.hid ⟨HE.out.trans hexc hsz (by simp),hexc⟩
           have hzc:wr.heap.size≤wc.heap.size:=hexc.size
           clear hexc)
        | (refine wpList_store_rowTo rfl 165 (.tmp 7) (.tmp 39) rfl rfl (wc.heap.size+1) kCells (by rfl) (by rfl) 165 _ (heap_alloc2_new _ _ _) Tryz.sizeK' (by rw [kCells_size];rfl) kCells_one ?_)
        | fail)
       refine wp_at (fun wq=>HoldsK wdE 1 wq wc.heap.size 0 startU.toArray∧HoldsK wdE 1 wq (wc.heap.size+1) 0 constU.toArray∧Ex wc.heap.size none wc wq∧wq.heap.size=wc.heap.size+2) ⟨row_holds (t:=164) ((setRow_other _ _ _ _ (by omega)).trans (heap_alloc2_old _ _ _)),row_holds (t:=165) (setRow_heap _ _ _ _ _ _ (heap_alloc2_new _ _ _)),(((Ex.new wc _).alloc (by simp) _).row _ _ (.inr (by omega))),by simp⟩ (fun wq hwq=>?_)
       have hwr0:wr.heap.size≤wc.heap.size:=hzc
       obtain⟨gs,hgs⟩:∃gs,gs=wc.heap.size:=⟨_,rfl⟩
       have HWQ:=Lib.hid hwq
       have HSM3:Hid (SlAt byRep (fun b=>b < gs) wq (some ⟨gm,0,none⟩) (padded b)):=Lib.hid (((HSM.out.mono (P':=fun b=>b < wr.heap.size) (by decide) (fun b _ hlt=>hlt)).keep (w':=wq) (by decide) (fun q _ hq=>(HEC.out.2.trans HWQ.out.2.2.1 hzc (by simp)).block q hq (by simp))).mono (by decide) (fun b hb _=>by omega))
       have HEQ:Hid (Ex w.heap.size none w wq):=Lib.hid (HEC.out.1.trans HWQ.out.2.2.1 (by omega) (by simp))
       have hzq:wq.heap.size=gs+2:=by rw [hgs];exact hwq.2.2.2
       have HGS:Hid (HoldsK wdE 1 wq gs 0 startU.toArray):=Lib.hid (by rw [hgs];exact hwq.1)
       have HGK:Hid (HoldsK wdE 1 wq (gs+1) 0 constU.toArray):=Lib.hid (by rw [hgs];exact hwq.2.1)
       have hwgs:w.heap.size≤gs:=by omega
       rw [←hgs]
       clear hwq HWQ hgs HEC HSM HOM HE hwr0
       go_wp2_with fail
       go_loopw [3] (fun v wl=>∃(q r c:Nat) (ao:Option Addr),r+64 * q=n∧c+64 * q=rc∧v=.slice ao r c∧(0 < r→ao=some ⟨gm,64 * q,none⟩)∧HoldsK wdE 1 wl gs 0 (blocks (padded b) q).toArray∧Ex wq.heap.size (some gs) wq wl) (fun v _=>lenV v)
       case atStart=>exact⟨0,n,rc,_,by omega,by omega,rfl,fun _=>rfl,HGS.out,Ex.refl _ _ _⟩
       case round=>
        obtain⟨q,r,c,ao3,hr,hc,rfl,hao,hhs,hex⟩:=hrel
        rename World=>wl
        have hsz2:=hex.size
        have HHS:=Lib.hid hhs
        have HEX:=Lib.hid hex
        have HHL:Hid ((blocks (padded b) q).length=8):=blocks_len _ _
        clear hhs hex
        by_cases h0:0 < r
        · obtain⟨r2,rfl⟩:∃r2,r=r2+64:=⟨r - 64,by omega⟩
          obtain⟨c2,rfl⟩:∃c2,c=c2+64:=⟨c - 64,by omega⟩
          obtain rfl:=hao h0
          have hI0: (0:Int) < (r2:Int)+64:=by omega
          have g1: (64:Int)≤(c2:Int)+64:=by omega
          have g2: (64:Int)≤(r2:Int)+64:=by omega
          have g3: (r2:Int)+64≤(c2:Int)+64:=by omega
          have HBL:Hid (SlAt byRep (fun _=>True) wl (some ⟨gm,64 * q,none⟩) (((padded b).drop (64 * q)).take 64)):=Lib.hid (by
           have h1:=((HSM3.out.keep (w':=wl) (by decide) (fun z hz hq=>HEX.out.block z hq (by simp;omega))).mono (P':=fun _=>True) (by decide) (fun _ _ _=>trivial)).drop (64 * q)
           have h2:=h1.take 64
           rw [show 0+64 * q * byRep.k=64 * q by simp [byRep,valRep]] at h2
           exact h2)
          have HBN:Hid ((((padded b).drop (64 * q)).take 64).length=64):=(show _=_ by rw [List.length_take,List.length_drop,←HNL.out];omega)
          have HGK2:Hid (HoldsK wdE 1 wl (gs+1) 0 constU.toArray):=Lib.hid (holdsK_keepP HGK.out HEX.out (by omega) (by omega) (by omega))
          have HRS:Hid (r2+64 * (q+1)=n∧c2+64 * (q+1)=rc):=Lib.hid (by omega)
          clear hao h0 hr hc
          by_cases hc2:c2=0
          · have hr2:Hid (r2=0):=Lib.hid (by have:=HRS.out;omega)
            go_wp2_with (go_at_call 130
                         refine(blockP_any (P:=fun _=>True) gs (gs+1) _ (blocks (padded b) q) (((padded b).drop (64 * q)).take 64) wl HHS.out ⟨_,_,by rw [HBN.out],HBL.out⟩ HGK2.out HHL.out HBN.out).mono ?_
                         rintro e w7 ⟨rfl,hs7,hex7⟩
                         have H7:Hid (HoldsK wdE 1 w7 gs 0 (blocks (padded b) (q+1)).toArray∧Ex wq.heap.size (some gs) wq w7):=Lib.hid ⟨hs7,HEX.out.trans hex7 hsz2 (fun q e _=>by cases e;rfl)⟩
                         clear hs7 hex7)
            go_roundw
            case rel=>exact⟨q+1,r2,0,_,HRS.out.1,by have:=HRS.out.2;omega,rfl,fun h=>by have:=hr2.out;omega,H7.out.1,H7.out.2⟩
            case measure=>simp [lenV]
          · go_wp2_with (go_at_call 130
                         refine(blockP_any (P:=fun _=>True) gs (gs+1) _ (blocks (padded b) q) (((padded b).drop (64 * q)).take 64) wl HHS.out ⟨_,_,by rw [HBN.out],HBL.out⟩ HGK2.out HHL.out HBN.out).mono ?_
                         rintro e w7 ⟨rfl,hs7,hex7⟩
                         have H7:Hid (HoldsK wdE 1 w7 gs 0 (blocks (padded b) (q+1)).toArray∧Ex wq.heap.size (some gs) wq w7):=Lib.hid ⟨hs7,HEX.out.trans hex7 hsz2 (fun q e _=>by cases e;rfl)⟩
                         clear hs7 hex7)
            go_roundw
            case rel=>exact⟨q+1,r2,c2,_,HRS.out.1,HRS.out.2,rfl,fun _=>by rw [show 64 * (q+1)=64 * q+64 by omega],H7.out.1,H7.out.2⟩
            case measure=>simp [lenV]
        · have hr0:r=0:=by omega
          have hnl5 : ¬(0:Int) < (r:Int):=by omega
          have HQ:Hid (sha b=strOf (outTo (blocks (padded b) q) 8)):=(show _=_ by
           unfold sha
           rw [←HNL.out,show n / 64=q by omega])
          obtain⟨H,hH⟩:∃H,H=blocks (padded b) q:=⟨_,rfl⟩
          rw [←hH] at HQ HHS HHL
          have HEW:Hid (Ex w.heap.size none w wl):=Lib.hid (HEQ.out.trans HEX.out (by omega) (fun q e h=>by cases e;omega))
          obtain⟨y0,hy0⟩:∃x,x=H.getD 0 0:=⟨_,rfl⟩
          have cy0:=(wd_cell HHS.out 0 (by rw [List.size_toArray,HHL.out];omega)).1
          rw [List.toList_toArray,←hy0] at cy0
          obtain⟨y1,hy1⟩:∃x,x=H.getD 1 0:=⟨_,rfl⟩
          have cy1:=(wd_cell HHS.out 1 (by rw [List.size_toArray,HHL.out];omega)).1
          rw [List.toList_toArray,←hy1] at cy1
          obtain⟨y2,hy2⟩:∃x,x=H.getD 2 0:=⟨_,rfl⟩
          have cy2:=(wd_cell HHS.out 2 (by rw [List.size_toArray,HHL.out];omega)).1
          rw [List.toList_toArray,←hy2] at cy2
          obtain⟨y3,hy3⟩:∃x,x=H.getD 3 0:=⟨_,rfl⟩
          have cy3:=(wd_cell HHS.out 3 (by rw [List.size_toArray,HHL.out];omega)).1
          rw [List.toList_toArray,←hy3] at cy3
          obtain⟨y4,hy4⟩:∃x,x=H.getD 4 0:=⟨_,rfl⟩
          have cy4:=(wd_cell HHS.out 4 (by rw [List.size_toArray,HHL.out];omega)).1
          rw [List.toList_toArray,←hy4] at cy4
          obtain⟨y5,hy5⟩:∃x,x=H.getD 5 0:=⟨_,rfl⟩
          have cy5:=(wd_cell HHS.out 5 (by rw [List.size_toArray,HHL.out];omega)).1
          rw [List.toList_toArray,←hy5] at cy5
          obtain⟨y6,hy6⟩:∃x,x=H.getD 6 0:=⟨_,rfl⟩
          have cy6:=(wd_cell HHS.out 6 (by rw [List.size_toArray,HHL.out];omega)).1
          rw [List.toList_toArray,←hy6] at cy6
          obtain⟨y7,hy7⟩:∃x,x=H.getD 7 0:=⟨_,rfl⟩
          have cy7:=(wd_cell HHS.out 7 (by rw [List.size_toArray,HHL.out];omega)).1
          rw [List.toList_toArray,←hy7] at cy7
          have HHE:Hid (H=[y0,y1,y2,y3,y4,y5,y6,y7]):=Lib.hid (by rw [hy0,hy1,hy2,hy3,hy4,hy5,hy6,hy7];exact eight HHL.out)
          have HOT:Hid (∀(k:Nat) (x:UInt32),H[k]? =some x→outTo H (k+1)=outTo H k ++ bytesU x):=Lib.hid (fun k x hx=>by unfold outTo;rw [List.take_add_one,hx];simp)
          clear hy0 hy1 hy2 hy3 hy4 hy5 hy6 hy7 hH hao h0
          go_wp2_with fail
          obtain⟨w8,hw8⟩:∃w8,w8=wl:=⟨_,rfl⟩
          subst hw8
          clear cy0 cy1 cy2 cy3 cy4 cy5 cy6 cy7
          go_loopw [8,10,49] (fun v _ i wr=>∃(k:Nat) (ro:Option Addr) (rc:Nat),k≤8∧i=.int .i64 k∧v=.slice ro (4 * k) rc∧OwnB wr w8.heap.size ro rc (outTo H k)∧Ex w8.heap.size none w8 wr) (fun _ _ i _=>8 - (intOf i).toNat)
          case atStart=>exact⟨0,none,0,by omega,rfl,rfl,OwnE.nil _ _ _ _ _,Ex.refl _ _ _⟩
          case round=>
           obtain⟨k,ro,rc,hk,rfl,rfl,hown,hex⟩:=hrel
           rename World=>wr
           have hsz3:=hex.size
           have HO:=Lib.hid hown
           have HE8:=Lib.hid hex
           have HOL:Hid ((outTo H k).length=4 * k):=outTo_len _ _ (by rw [HHL.out];omega)
           clear hown hex
           rcases(by omega:k=0∨k=1∨k=2∨k=3∨k=4∨k=5∨k=6∨k=7∨k=8) with rfl | rfl | rfl | rfl | rfl | rfl | rfl | rfl | hk8
           · have ix:=fun w=>Tryz.idx8_0 (.int .u32 y0.toNat) (.int .u32 y1.toNat) (.int .u32 y2.toNat) (.int .u32 y3.toNat) (.int .u32 y4.toNat) (.int .u32 y5.toNat) (.int .u32 y6.toNat) (.int .u32 y7.toNat) w
             go_wp2_with (at_builtin;refine wpList_appE2 rfl (.tmp 52) (.tmp 64) _ 5 (by rfl) Tryz.underlying79 _ 1 1 Tryz.infoB rfl (by decide) (by decide) byE byE_len one_byE w8.heap.size ro rc 0 (outTo H 0) HOL.out (by rfl) (some ⟨wr.heap.size,0,none⟩) 4 4 (by rfl) (bytesU y0) rfl (HO.out.keep (p:=none) (Ex.new wr _) (Nat.le_refl _) (by simp)) (lit_src (by rw [u_bytes];simp only [IntKind.wrap_u8]) rfl) (by omega) (by simp;omega) 4 (by omega) ?_;intro ro9 rc9 w9 hown9 hex9 _ _)
             have HO9:Hid (OwnB w9 w8.heap.size ro9 rc9 (outTo H 1)):=Lib.hid (by
              rw [HOT.out 0 y0 (by rw [HHE.out];rfl)];exact hown9)
             have HE9:Hid (Ex w8.heap.size none w8 w9):=Lib.hid ((HE8.out.trans (Ex.new wr _) hsz3 (by simp)).trans hex9 (Nat.le_refl _) (by simp))
             clear hown9 hex9
             go_roundw
             case rel=>exact⟨1,ro9,rc9,by omega,by first | rfl | go_num,rfl,HO9.out,HE9.out⟩
             case measure=>simp [intOf]
           · have ix:=fun w=>Tryz.idx8_1 (.int .u32 y0.toNat) (.int .u32 y1.toNat) (.int .u32 y2.toNat) (.int .u32 y3.toNat) (.int .u32 y4.toNat) (.int .u32 y5.toNat) (.int .u32 y6.toNat) (.int .u32 y7.toNat) w
             go_wp2_with (at_builtin;refine wpList_appE2 rfl (.tmp 52) (.tmp 64) _ 5 (by rfl) Tryz.underlying79 _ 1 1 Tryz.infoB rfl (by decide) (by decide) byE byE_len one_byE w8.heap.size ro rc 4 (outTo H 1) HOL.out (by rfl) (some ⟨wr.heap.size,0,none⟩) 4 4 (by rfl) (bytesU y1) rfl (HO.out.keep (p:=none) (Ex.new wr _) (Nat.le_refl _) (by simp)) (lit_src (by rw [u_bytes];simp only [IntKind.wrap_u8]) rfl) (by omega) (by simp;omega) 8 (by omega) ?_;intro ro9 rc9 w9 hown9 hex9 _ _)
             have HO9:Hid (OwnB w9 w8.heap.size ro9 rc9 (outTo H 2)):=Lib.hid (by
              rw [HOT.out 1 y1 (by rw [HHE.out];rfl)];exact hown9)
             have HE9:Hid (Ex w8.heap.size none w8 w9):=Lib.hid ((HE8.out.trans (Ex.new wr _) hsz3 (by simp)).trans hex9 (Nat.le_refl _) (by simp))
             clear hown9 hex9
             go_roundw
             case rel=>exact⟨2,ro9,rc9,by omega,by first | rfl | go_num,rfl,HO9.out,HE9.out⟩
             case measure=>simp [intOf]
           · have ix:=fun w=>Tryz.idx8_2 (.int .u32 y0.toNat) (.int .u32 y1.toNat) (.int .u32 y2.toNat) (.int .u32 y3.toNat) (.int .u32 y4.toNat) (.int .u32 y5.toNat) (.int .u32 y6.toNat) (.int .u32 y7.toNat) w
             go_wp2_with (at_builtin;refine wpList_appE2 rfl (.tmp 52) (.tmp 64) _ 5 (by rfl) Tryz.underlying79 _ 1 1 Tryz.infoB rfl (by decide) (by decide) byE byE_len one_byE w8.heap.size ro rc 8 (outTo H 2) HOL.out (by rfl) (some ⟨wr.heap.size,0,none⟩) 4 4 (by rfl) (bytesU y2) rfl (HO.out.keep (p:=none) (Ex.new wr _) (Nat.le_refl _) (by simp)) (lit_src (by rw [u_bytes];simp only [IntKind.wrap_u8]) rfl) (by omega) (by simp;omega) 12 (by omega) ?_;intro ro9 rc9 w9 hown9 hex9 _ _)
             have HO9:Hid (OwnB w9 w8.heap.size ro9 rc9 (outTo H 3)):=Lib.hid (by
              rw [HOT.out 2 y2 (by rw [HHE.out];rfl)];exact hown9)
             have HE9:Hid (Ex w8.heap.size none w8 w9):=Lib.hid ((HE8.out.trans (Ex.new wr _) hsz3 (by simp)).trans hex9 (Nat.le_refl _) (by simp))
             clear hown9 hex9
             go_roundw
             case rel=>exact⟨3,ro9,rc9,by omega,by first | rfl | go_num,rfl,HO9.out,HE9.out⟩
             case measure=>simp [intOf]
           · have ix:=fun w=>Tryz.idx8_3 (.int .u32 y0.toNat) (.int .u32 y1.toNat) (.int .u32 y2.toNat) (.int .u32 y3.toNat) (.int .u32 y4.toNat) (.int .u32 y5.toNat) (.int .u32 y6.toNat) (.int .u32 y7.toNat) w
             go_wp2_with (at_builtin;refine wpList_appE2 rfl (.tmp 52) (.tmp 64) _ 5 (by rfl) Tryz.underlying79 _ 1 1 Tryz.infoB rfl (by decide) (by decide) byE byE_len one_byE w8.heap.size ro rc 12 (outTo H 3) HOL.out (by rfl) (some ⟨wr.heap.size,0,none⟩) 4 4 (by rfl) (bytesU y3) rfl (HO.out.keep (p:=none) (Ex.new wr _) (Nat.le_refl _) (by simp)) (lit_src (by rw [u_bytes];simp only [IntKind.wrap_u8]) rfl) (by omega) (by simp;omega) 16 (by omega) ?_;intro ro9 rc9 w9 hown9 hex9 _ _)
             have HO9:Hid (OwnB w9 w8.heap.size ro9 rc9 (outTo H 4)):=Lib.hid (by
              rw [HOT.out 3 y3 (by rw [HHE.out];rfl)];exact hown9)
             have HE9:Hid (Ex w8.heap.size none w8 w9):=Lib.hid ((HE8.out.trans (Ex.new wr _) hsz3 (by simp)).trans hex9 (Nat.le_refl _) (by simp))
             clear hown9 hex9
             go_roundw
             case rel=>exact⟨4,ro9,rc9,by omega,by first | rfl | go_num,rfl,HO9.out,HE9.out⟩
             case measure=>simp [intOf]
           · have ix:=fun w=>Tryz.idx8_4 (.int .u32 y0.toNat) (.int .u32 y1.toNat) (.int .u32 y2.toNat) (.int .u32 y3.toNat) (.int .u32 y4.toNat) (.int .u32 y5.toNat) (.int .u32 y6.toNat) (.int .u32 y7.toNat) w
             go_wp2_with (at_builtin;refine wpList_appE2 rfl (.tmp 52) (.tmp 64) _ 5 (by rfl) Tryz.underlying79 _ 1 1 Tryz.infoB rfl (by decide) (by decide) byE byE_len one_byE w8.heap.size ro rc 16 (outTo H 4) HOL.out (by rfl) (some ⟨wr.heap.size,0,none⟩) 4 4 (by rfl) (bytesU y4) rfl (HO.out.keep (p:=none) (Ex.new wr _) (Nat.le_refl _) (by simp)) (lit_src (by rw [u_bytes];simp only [IntKind.wrap_u8]) rfl) (by omega) (by simp;omega) 20 (by omega) ?_;intro ro9 rc9 w9 hown9 hex9 _ _)
             have HO9:Hid (OwnB w9 w8.heap.size ro9 rc9 (outTo H 5)):=Lib.hid (by
              rw [HOT.out 4 y4 (by rw [HHE.out];rfl)];exact hown9)
             have HE9:Hid (Ex w8.heap.size none w8 w9):=Lib.hid ((HE8.out.trans (Ex.new wr _) hsz3 (by simp)).trans hex9 (Nat.le_refl _) (by simp))
             clear hown9 hex9
             go_roundw
             case rel=>exact⟨5,ro9,rc9,by omega,by first | rfl | go_num,rfl,HO9.out,HE9.out⟩
             case measure=>simp [intOf]
           · have ix:=fun w=>Tryz.idx8_5 (.int .u32 y0.toNat) (.int .u32 y1.toNat) (.int .u32 y2.toNat) (.int .u32 y3.toNat) (.int .u32 y4.toNat) (.int .u32 y5.toNat) (.int .u32 y6.toNat) (.int .u32 y7.toNat) w
             go_wp2_with (at_builtin;refine wpList_appE2 rfl (.tmp 52) (.tmp 64) _ 5 (by rfl) Tryz.underlying79 _ 1 1 Tryz.infoB rfl (by decide) (by decide) byE byE_len one_byE w8.heap.size ro rc 20 (outTo H 5) HOL.out (by rfl) (some ⟨wr.heap.size,0,none⟩) 4 4 (by rfl) (bytesU y5) rfl (HO.out.keep (p:=none) (Ex.new wr _) (Nat.le_refl _) (by simp)) (lit_src (by rw [u_bytes];simp only [IntKind.wrap_u8]) rfl) (by omega) (by simp;omega) 24 (by omega) ?_;intro ro9 rc9 w9 hown9 hex9 _ _)
             have HO9:Hid (OwnB w9 w8.heap.size ro9 rc9 (outTo H 6)):=Lib.hid (by
              rw [HOT.out 5 y5 (by rw [HHE.out];rfl)];exact hown9)
             have HE9:Hid (Ex w8.heap.size none w8 w9):=Lib.hid ((HE8.out.trans (Ex.new wr _) hsz3 (by simp)).trans hex9 (Nat.le_refl _) (by simp))
             clear hown9 hex9
             go_roundw
             case rel=>exact⟨6,ro9,rc9,by omega,by first | rfl | go_num,rfl,HO9.out,HE9.out⟩
             case measure=>simp [intOf]
           · have ix:=fun w=>Tryz.idx8_6 (.int .u32 y0.toNat) (.int .u32 y1.toNat) (.int .u32 y2.toNat) (.int .u32 y3.toNat) (.int .u32 y4.toNat) (.int .u32 y5.toNat) (.int .u32 y6.toNat) (.int .u32 y7.toNat) w
             go_wp2_with (at_builtin;refine wpList_appE2 rfl (.tmp 52) (.tmp 64) _ 5 (by rfl) Tryz.underlying79 _ 1 1 Tryz.infoB rfl (by decide) (by decide) byE byE_len one_byE w8.heap.size ro rc 24 (outTo H 6) HOL.out (by rfl) (some ⟨wr.heap.size,0,none⟩) 4 4 (by rfl) (bytesU y6) rfl (HO.out.keep (p:=none) (Ex.new wr _) (Nat.le_refl _) (by simp)) (lit_src (by rw [u_bytes];simp only [IntKind.wrap_u8]) rfl) (by omega) (by simp;omega) 28 (by omega) ?_;intro ro9 rc9 w9 hown9 hex9 _ _)
             have HO9:Hid (OwnB w9 w8.heap.size ro9 rc9 (outTo H 7)):=Lib.hid (by
              rw [HOT.out 6 y6 (by rw [HHE.out];rfl)];exact hown9)
             have HE9:Hid (Ex w8.heap.size none w8 w9):=Lib.hid ((HE8.out.trans (Ex.new wr _) hsz3 (by simp)).trans hex9 (Nat.le_refl _) (by simp))
             clear hown9 hex9
             go_roundw
             case rel=>exact⟨7,ro9,rc9,by omega,by first | rfl | go_num,rfl,HO9.out,HE9.out⟩
             case measure=>simp [intOf]
           · have ix:=fun w=>Tryz.idx8_7 (.int .u32 y0.toNat) (.int .u32 y1.toNat) (.int .u32 y2.toNat) (.int .u32 y3.toNat) (.int .u32 y4.toNat) (.int .u32 y5.toNat) (.int .u32 y6.toNat) (.int .u32 y7.toNat) w
             go_wp2_with (at_builtin;refine wpList_appE2 rfl (.tmp 52) (.tmp 64) _ 5 (by rfl) Tryz.underlying79 _ 1 1 Tryz.infoB rfl (by decide) (by decide) byE byE_len one_byE w8.heap.size ro rc 28 (outTo H 7) HOL.out (by rfl) (some ⟨wr.heap.size,0,none⟩) 4 4 (by rfl) (bytesU y7) rfl (HO.out.keep (p:=none) (Ex.new wr _) (Nat.le_refl _) (by simp)) (lit_src (by rw [u_bytes];simp only [IntKind.wrap_u8]) rfl) (by omega) (by simp;omega) 32 (by omega) ?_;intro ro9 rc9 w9 hown9 hex9 _ _)
             have HO9:Hid (OwnB w9 w8.heap.size ro9 rc9 (outTo H 8)):=Lib.hid (by
              rw [HOT.out 7 y7 (by rw [HHE.out];rfl)];exact hown9)
             have HE9:Hid (Ex w8.heap.size none w8 w9):=Lib.hid ((HE8.out.trans (Ex.new wr _) hsz3 (by simp)).trans hex9 (Nat.le_refl _) (by simp))
             clear hown9 hex9
             go_roundw
             case rel=>exact⟨8,ro9,rc9,by omega,by first | rfl | go_num,rfl,HO9.out,HE9.out⟩
             case measure=>simp [intOf]
           · have hnl8 : ¬(k:Int) < 8:=by omega
             have hconv:=run_strOf (P:=Tryz.prog) (src:=79) (dst:=9) (HO.out.len rfl HOL.out.symm) Tryz.underlying79 Tryz.underlying5 Tryz.underlying9
             have HK8:Hid (sha b=strOf (outTo H k)):=(show _=_ by rw [HQ.out,hk8])
             clear hk8
             go_wp2
             go_ret
             exact⟨by rw [HK8.out];rfl,HEW.out.trans HE8.out (by have:=HEW.out.size;omega) (by simp)⟩
end Go.Proofs.YtflhidfclfkjlaaGreat

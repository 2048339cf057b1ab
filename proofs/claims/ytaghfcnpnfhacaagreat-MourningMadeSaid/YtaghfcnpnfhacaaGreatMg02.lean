/- slices.symMergeCmpFunc at trustflow/api.Heir, where the first run has one element, over whatever program that bears it: a contract, no statement of the seat. | slices.symMergeCmpFunc at trustflow/api.Heir, where the second run has one element and the first more, over whatever program that bears it: a contract, no statement of the seat. | slices.swapRangeCmpFunc at trustflow/api.Heir, over whatever program that bears it: a contract, no statement of the seat. | slices.rotateCmpFunc at trustflow/api.Heir, over whatever program that bears it: a contract, no statement of the seat. | slices.symMergeCmpFunc at trustflow/api.Heir, over whatever program that bears it: definitions, no statement of the seat. | Runs of a row in blocks, as the library's stable sort makes them longer: plain laws. No program in sight. | What the library's CompactFunc leaves of a row: plain laws. No program in sight. | slices.CompactFunc at trustflow/api.Heir, over whatever program that bears it: a contract, no statement of the seat. | The library's binary search at heirs: a contract, no statement of the seat. | ref35.Follow, Replace: contracts, no statement of the seat. | Sorted and compacted numbers: plain laws; the library's Sort and Compact at ints, met in these texts' words. No statement of the seat. | ref35.Replace: a contract, no statement of the seat. | ref23.SameInts: contracts, no statement of the seat. | made.Mod: contracts, no statement of the seat. -/
import Derived.Test.YtaghfcnpnfhacaaGreatMg01
import Derived.Sort.LotA
import Derived.Test.YtaghfcnpnfhacaaGreatShelf
import Derived.Test.YtaghfcnpnfhacaaGreatMg00
import Derived.Test.YtaghfcnpnfhacaaGreatRows
namespace Go.Proofs.YtaghfcnpnfhacaaGreat
open Go.RowKit Go.Sort
variable {P : Program} {α : Type} [Inhabited α]

/-- What is asked of a comparing function: with two aggregates it hands back 'cf x y'; it may draw, and lay blocks of its own. -/
def CmpAt (P : Program) (f : Nat) (cb : Array Value) (enc : α → List Value) (cf : α → α → Int) : Prop :=
  ∀ (w : World) (x y : α), Calls P f (#[.agg (enc x).toArray, .agg (enc y).toArray] ++ cb) w fun e w' => e = .returned (.int .i64 (cf x y)) ∧ ∃ q os', w' = grow (w.drewN q) os'
theorem ex_grow' {B : Nat} {w : World} (q : Nat) (os : Array Obj) (p : Option Nat) (hB : B ≤ w.heap.size) : Ex B p w (grow (w.drewN q) os) :=
  ⟨rfl, rfl, rfl, by rw [size_grow]; exact Nat.le_add_right _ _, fun k hk _ => heap_grow_old (w.drewN q) os (by exact Nat.lt_of_lt_of_le hk hB)⟩

set_option maxHeartbeats 8000000 in
set_option maxRecDepth 1000000 in
theorem symOneHeir {k : Nat} (L : LayHeir P k) (enc : α → List Value) (hk : ∀ x, (enc x).length = k) (h1 : ∀ x, ∀ v ∈ enc x, v.oneCell' = true) (cf : α → α → Int) (hS : SWO (ltOf cf)) (f : Nat) (cb : Array Value)
    (ef : ∀ args w, (callFunc f args).run P w = .ok (.enter f args) w) (hcmp : CmpAt P f cb enc cf) (g off cap a m b s : Nat) (A M B : Int) (hA : (a : Int) = A) (hM : (m : Int) = M) (hB : (b : Int) = B) (d : Array α) (w : World) (hH : HoldsK enc k w g off d) (hg : g < w.heap.size) (ham : a < m) (hmb : m < b) (hb : b ≤ d.size) (hsz : d.size < 4611686018427387904) (hs : d.size = s)
    (r1 : SortedIn (ltOf cf) a m d) (r2 : SortedIn (ltOf cf) m b d) (hone : m = a + 1) :
    Calls P 328 #[.slice (some ⟨g, off, none⟩) s cap, .int .i64 A, .int .i64 M, .int .i64 B, .func (.func f) #[] cb] w fun e w' =>
      e = .returned (.tuple #[]) ∧ ∃ d', HoldsK enc k w' g off d' ∧ SM (ltOf cf) a b d d' ∧ SortedIn (ltOf cf) a b d' ∧ Ex w.heap.size (some g) w w' := by
  subst hA hM hB hs
  have mixed := L.mixed; have t0 := L.t0; have a0 := L.a0; have z0 := L.z0; have v0 := L.v0; have t1 := L.t1; have a1 := L.a1; have z1 := L.z1; have v1 := L.v1; have t2 := L.t2; have a2 := L.a2; have z2 := L.z2; have v2 := L.v2; have t3 := L.t3; have a3 := L.a3; have z3 := L.z3; have v3 := L.v3; have t4 := L.t4; have a4 := L.a4; have z4 := L.z4; have v4 := L.v4; have t5 := L.t5; have a5 := L.a5; have z5 := L.z5; have v5 := L.v5; have aE := L.aE; have zE := L.zE
  have u4 := run_underlying L.t4
  have HK := Lib.hid hk
  have H1 := Lib.hid h1
  have HC := Lib.hid hcmp
  have HHw := Lib.hid hH
  have HS := Lib.hid hS
  have HR1 := Lib.hid r1
  have HR2 := Lib.hid r2
  clear hk h1 hcmp hH hS r1 r2
  have hd : (((m : Int) - a) == 1) = true := by simp; omega
  have HO := Lib.hid hone
  clear hone
  have hma : m ≤ a + 1 := by have := HO.out; omega
  go_enter L.fM, Tryz.ntmps328
  go_wp2
  go_loopw [10, 11] (fun vi vj wr => ∃ (i j : Nat), vi = .int .i64 i ∧ vj = .int .i64 j ∧ m ≤ i ∧ i ≤ j ∧ j ≤ b ∧ HoldsK enc k wr g off d ∧ OneLo (ltOf cf) d a i ∧ OneHi (ltOf cf) d a j b ∧ Ex w.heap.size (some g) w wr) (fun vi vj _ => (intOf vj - intOf vi).toNat)
  case atStart => exact ⟨m, b, rfl, rfl, Nat.le_refl _, by omega, Nat.le_refl _, HHw.out, fun h h1 h2 => by omega, fun h h1 h2 => by omega, Ex.refl _ _ _⟩
  case round =>
    obtain ⟨i, j, rfl, rfl, hmi, hij, hjb, hHk, hlo, hhi, hex⟩ := hrel
    have HHk := Lib.hid hHk
    have HLo := Lib.hid hlo
    have HHi := Lib.hid hhi
    clear hHk hlo hhi
    have hsz' := hex.size
    by_cases hlt : (i : Int) < j
    · obtain ⟨h, hh⟩ : ∃ h, h = (i + j) / 2 := ⟨_, rfl⟩
      have h1 : i ≤ h := by omega
      have h2 : h < j := by omega
      have e1 : ((i : Int) + j) / 2 = (h : Int) := by omega
      clear hh
      have hHc : ∀ n' os', HoldsK enc k (grow (wr.drewN n') os') g off d := fun n' os' => holdsK_grow enc k _ os' g off d (by show g < wr.heap.size; omega) (show HoldsK enc k (wr.drewN n') g off d from HHk.out)
      obtain ⟨vh, hvh⟩ : ∃ v, d[h]! = v := ⟨_, rfl⟩
      obtain ⟨va, hva⟩ : ∃ v, d[a]! = v := ⟨_, rfl⟩
      have l1 : ∀ n' os', Sem.run P (loadCellsFrom ⟨g, off + h * k, none⟩ 0 k #[]) (grow (wr.drewN n') os') = .ok (enc vh).toArray (grow (wr.drewN n') os') := fun n' os' => by
        rw [← hvh]; exact run_loadCellsFrom_list P _ _ _ k (HK.out _) (HoldsK.cells (hHc n' os') HK.out (by omega))
      have l2 : ∀ n' os', Sem.run P (loadCellsFrom ⟨g, off + a * k, none⟩ 0 k #[]) (grow (wr.drewN n') os') = .ok (enc va).toArray (grow (wr.drewN n') os') := fun n' os' => by
        rw [← hva]; exact run_loadCellsFrom_list P _ _ _ k (HK.out _) (HoldsK.cells (hHc n' os') HK.out (by omega))
      have hcg : ∀ n' os', Calls P f (#[.agg (enc vh).toArray, .agg (enc va).toArray] ++ cb) (grow (wr.drewN n') os') fun e w' => e = .returned (.int .i64 (cf vh va)) ∧ ∃ q os'', w' = grow ((grow (wr.drewN n') os').drewN q) os'' := fun n' os' => HC.out _ _ _
      have HV : Hid (d[h]! = vh ∧ d[a]! = va) := ⟨hvh, hva⟩
      clear hHc hvh hva
      have b1 : (h : Int) < d.size := by omega
      have b2 : (a : Int) < d.size := by omega
      by_cases hlv : cf vh va < 0
      · go_wp2_with fail
        go_quiet_grown (first | (go_at_fn f; refine Calls.grown_of (hcg _ _)))
        go_wp2
        go_roundw
        case rel => exact ⟨h + 1, j, by go_num, rfl, by omega, by omega, hjb, holdsK_grow enc k _ _ g off d (by show g < wr.heap.size; omega) (show HoldsK enc k (wr.drewN nq) g off d from HHk.out), OneLo.step HS.out (b := b) (by have := HR2.out; rwa [HO.out] at this) (by omega) (by rw [HV.out.1, HV.out.2]; exact decide_eq_true hlv), HHi.out, hex.trans (ex_grow' nq osq none (Nat.le_refl _)) hsz' (by simp)⟩
        case measure => simp [intOf]; omega
      · go_wp2_with fail
        go_quiet_grown (first | (go_at_fn f; refine Calls.grown_of (hcg _ _)))
        go_wp2
        go_roundw
        case rel => exact ⟨i, h, rfl, rfl, hmi, h1, by omega, holdsK_grow enc k _ _ g off d (by show g < wr.heap.size; omega) (show HoldsK enc k (wr.drewN nq) g off d from HHk.out), HLo.out, OneHi.step HS.out (b := b) (by have := HR2.out; rwa [HO.out] at this) (by omega) (by rw [HV.out.1, HV.out.2]; exact decide_eq_false (fun hx => by omega)), hex.trans (ex_grow' nq osq none (Nat.le_refl _)) hsz' (by simp)⟩
        case measure => simp [intOf]; omega
    · obtain rfl : i = j := by omega
      obtain ⟨w0, rfl⟩ : ∃ w0 : World, w0 = wr := ⟨_, rfl⟩
      go_wp2
      go_loopw [13] (fun vk wr => ∃ (t : Nat) (dk : Array α), vk = .int .i64 t ∧ a ≤ t ∧ t + 1 ≤ i ∧ HoldsK enc k wr g off dk ∧ By (rotIx a (a + 1) (t + 1)) d dk ∧ Ex w.heap.size (some g) w wr) (fun vk _ => i - (intOf vk).toNat)
      case atStart => exact ⟨a, d, rfl, Nat.le_refl _, by omega, HHk.out, By.refl _ _ (fun t _ => rotIx_id (by omega) (by omega) (Or.inr rfl)), hex⟩
      case round =>
        clear HHk hex hsz'
        obtain ⟨t, dk, rfl, hat, hti, hHk, hby, hex⟩ := hrel
        have HHk := Lib.hid hHk
        have HBy := Lib.hid hby
        clear hHk hby
        have hsz' := hex.size
        by_cases hlt2 : (t : Int) < (i : Int) - 1
        · have e0 : ((t : Int) + 1).toNat = t + 1 := by omega
          have p0 : (0 : Int) ≤ (t : Int) + 1 := by omega
          have q0 : (t : Int) + 1 < d.size := by omega
          have q1 : (t : Int) < d.size := by omega
          have hHd : HoldsK enc k wr.drew g off dk := HHk.out
          have hds : dk.size = d.size := HBy.out.1
          obtain ⟨vx, hvx⟩ : ∃ v, dk[t]! = v := ⟨_, rfl⟩
          obtain ⟨vy, hvy⟩ : ∃ v, dk[t + 1]! = v := ⟨_, rfl⟩
          have bnd : ∀ x, x < dk.size → x * k + k ≤ dk.size * k := fun x hx => by
            have := Nat.mul_le_mul_right k (show x + 1 ≤ dk.size from hx); rwa [Nat.add_mul, Nat.one_mul] at this
          have lx : Sem.run P (loadCellsFrom ⟨g, off + (t) * k, none⟩ 0 k #[]) wr.drew = .ok (enc vx).toArray wr.drew := by rw [← hvx]; exact run_loadCellsFrom_list P _ _ _ k (HK.out _) (HoldsK.cells hHd HK.out (by omega))
          have ly : Sem.run P (loadCellsFrom ⟨g, off + (t + 1) * k, none⟩ 0 k #[]) wr.drew = .ok (enc vy).toArray wr.drew := by rw [← hvy]; exact run_loadCellsFrom_list P _ _ _ k (HK.out _) (HoldsK.cells hHd HK.out (by omega))
          have s1 : Sem.run P (storeCells ⟨g, off + (t) * k, none⟩ (enc vy) 0) wr.drew = .ok () (wr.drew.setCells g (off + (t) * k) (enc vy)) := stores_of_holds P hHd ((t) * k) _ (by rw [HK.out, size_flatK]; exact bnd (t) (by omega)) (H1.out _)
          have s2 : Sem.run P (storeCells ⟨g, off + (t + 1) * k, none⟩ (enc vx) 0) (wr.drew.setCells g (off + (t) * k) (enc vy)) = .ok () ((wr.drew.setCells g (off + (t) * k) (enc vy)).setCells g (off + (t + 1) * k) (enc vx)) :=
            stores_of_holds P (holds_setCells_c hHd ((t) * k) _ (by rw [HK.out, size_flatK]; exact bnd (t) (by omega))) ((t + 1) * k) _ (by rw [HK.out, size_setMany, size_flatK]; exact bnd (t + 1) (by omega)) (H1.out _)
          have hsX : (enc vx).length = k := HK.out _
          have hsY : (enc vy).length = k := HK.out _
          clear bnd hHd
          obtain ⟨cX, hcX⟩ : ∃ c, c = enc vx := ⟨_, rfl⟩
          obtain ⟨cY, hcY⟩ : ∃ c, c = enc vy := ⟨_, rfl⟩
          rw [← hcX] at lx hsX
          rw [← hcY] at ly hsY
          rw [← hcY] at s1
          rw [← hcX, ← hcY] at s2
          have CC : Hid (cX = enc vx ∧ cY = enc vy ∧ dk[t]! = vx ∧ dk[t + 1]! = vy) := ⟨hcX, hcY, hvx, hvy⟩
          clear hcX hcY hvx hvy hds
          go_wp2_with fail
          go_big_region_o
          all_goals go_wp2
          go_roundw
          case rel =>
            have hds : dk.size = d.size := HBy.out.1
            obtain ⟨k1, k2⟩ := swapWorldK enc k HK.out wr g off dk t (t + 1) HHk.out (by omega) (by omega) (by omega)
            refine ⟨t + 1, swp dk t (t + 1), by go_num, by omega, by omega, ?_, HBy.out.up hat (by omega), ?_⟩
            · rw [CC.out.1, CC.out.2.1, ← CC.out.2.2.1, ← CC.out.2.2.2]; exact k1
            · rw [CC.out.1, CC.out.2.1, ← CC.out.2.2.1, ← CC.out.2.2.2]; exact hex.trans k2 hsz' (fun q e _ => by cases e; rfl)
          case measure => simp [intOf]; omega
        · go_wp2
          refine bodyPost_ret (results_none rfl _ _ _) rfl ?_
          have h0 := HBy.out
          rw [show t + 1 = i by omega] at h0
          obtain ⟨x1, x2⟩ := one_ahead HS.out h0 (by omega) (by omega) hb (by have := HR2.out; rwa [HO.out] at this) HLo.out HHi.out
          exact ⟨rfl, dk, HHk.out, x1, x2, hex⟩
end Go.Proofs.YtaghfcnpnfhacaaGreat

namespace Go.Proofs.YtaghfcnpnfhacaaGreat
open Go.RowKit Go.Sort
variable {P : Program} {α : Type} [Inhabited α]

set_option maxHeartbeats 8000000 in
set_option maxRecDepth 1000000 in
theorem symEndHeir {k : Nat} (L : LayHeir P k) (enc : α → List Value) (hk : ∀ x, (enc x).length = k) (h1 : ∀ x, ∀ v ∈ enc x, v.oneCell' = true) (cf : α → α → Int) (hS : SWO (ltOf cf)) (f : Nat) (cb : Array Value)
    (ef : ∀ args w, (callFunc f args).run P w = .ok (.enter f args) w) (hcmp : CmpAt P f cb enc cf) (g off cap a m b s : Nat) (A M B : Int) (hA : (a : Int) = A) (hM : (m : Int) = M) (hB : (b : Int) = B) (d : Array α) (w : World) (hH : HoldsK enc k w g off d) (hg : g < w.heap.size) (ham : a < m) (hmb : m < b) (hb : b ≤ d.size) (hsz : d.size < 4611686018427387904) (hs : d.size = s)
    (r1 : SortedIn (ltOf cf) a m d) (r2 : SortedIn (ltOf cf) m b d) (hmore : m ≠ a + 1) (hone : b = m + 1) :
    Calls P 328 #[.slice (some ⟨g, off, none⟩) s cap, .int .i64 A, .int .i64 M, .int .i64 B, .func (.func f) #[] cb] w fun e w' =>
      e = .returned (.tuple #[]) ∧ ∃ d', HoldsK enc k w' g off d' ∧ SM (ltOf cf) a b d d' ∧ SortedIn (ltOf cf) a b d' ∧ Ex w.heap.size (some g) w w' := by
  subst hA hM hB hs
  have mixed := L.mixed; have t0 := L.t0; have a0 := L.a0; have z0 := L.z0; have v0 := L.v0; have t1 := L.t1; have a1 := L.a1; have z1 := L.z1; have v1 := L.v1; have t2 := L.t2; have a2 := L.a2; have z2 := L.z2; have v2 := L.v2; have t3 := L.t3; have a3 := L.a3; have z3 := L.z3; have v3 := L.v3; have t4 := L.t4; have a4 := L.a4; have z4 := L.z4; have v4 := L.v4; have t5 := L.t5; have a5 := L.a5; have z5 := L.z5; have v5 := L.v5; have aE := L.aE; have zE := L.zE
  have u4 := run_underlying L.t4
  have HK := Lib.hid hk
  have H1 := Lib.hid h1
  have HC := Lib.hid hcmp
  have HHw := Lib.hid hH
  have HS := Lib.hid hS
  have HR1 := Lib.hid r1
  have HR2 := Lib.hid r2
  clear hk h1 hcmp hH hS r1 r2
  have hd : (((m : Int) - a) == 1) = false := by simp; omega
  have hd2 : (((b : Int) - m) == 1) = true := by simp; omega
  have HO := Lib.hid hone
  clear hone hmore
  have hmb' : b ≤ m + 1 := by have := HO.out; omega
  go_enter L.fM, Tryz.ntmps328
  go_wp2
  go_loopw [14, 15] (fun vi vj wr => ∃ (i j : Nat), vi = .int .i64 i ∧ vj = .int .i64 j ∧ a ≤ i ∧ i ≤ j ∧ j ≤ m ∧ HoldsK enc k wr g off d ∧ EndLo (ltOf cf) d m a i ∧ EndHi (ltOf cf) d m j ∧ Ex w.heap.size (some g) w wr) (fun vi vj _ => (intOf vj - intOf vi).toNat)
  case atStart => exact ⟨a, m, rfl, rfl, Nat.le_refl _, by omega, Nat.le_refl _, HHw.out, fun h h1 h2 => by omega, fun h h1 h2 => by omega, Ex.refl _ _ _⟩
  case round =>
    obtain ⟨i, j, rfl, rfl, hmi, hij, hjb, hHk, hlo, hhi, hex⟩ := hrel
    have HHk := Lib.hid hHk
    have HLo := Lib.hid hlo
    have HHi := Lib.hid hhi
    clear hHk hlo hhi
    have hsz' := hex.size
    by_cases hlt : (i : Int) < j
    · obtain ⟨h, hh⟩ : ∃ h, h = (i + j) / 2 := ⟨_, rfl⟩
      have h1 : i ≤ h := by omega
      have h2 : h < j := by omega
      have e1 : ((i : Int) + j) / 2 = (h : Int) := by omega
      clear hh
      have hHc : ∀ n' os', HoldsK enc k (grow (wr.drewN n') os') g off d := fun n' os' => holdsK_grow enc k _ os' g off d (by show g < wr.heap.size; omega) (show HoldsK enc k (wr.drewN n') g off d from HHk.out)
      obtain ⟨vm, hvm⟩ : ∃ v, d[m]! = v := ⟨_, rfl⟩
      obtain ⟨vh, hvh⟩ : ∃ v, d[h]! = v := ⟨_, rfl⟩
      have l1 : ∀ n' os', Sem.run P (loadCellsFrom ⟨g, off + m * k, none⟩ 0 k #[]) (grow (wr.drewN n') os') = .ok (enc vm).toArray (grow (wr.drewN n') os') := fun n' os' => by
        rw [← hvm]; exact run_loadCellsFrom_list P _ _ _ k (HK.out _) (HoldsK.cells (hHc n' os') HK.out (by omega))
      have l2 : ∀ n' os', Sem.run P (loadCellsFrom ⟨g, off + h * k, none⟩ 0 k #[]) (grow (wr.drewN n') os') = .ok (enc vh).toArray (grow (wr.drewN n') os') := fun n' os' => by
        rw [← hvh]; exact run_loadCellsFrom_list P _ _ _ k (HK.out _) (HoldsK.cells (hHc n' os') HK.out (by omega))
      have hcg : ∀ n' os', Calls P f (#[.agg (enc vm).toArray, .agg (enc vh).toArray] ++ cb) (grow (wr.drewN n') os') fun e w' => e = .returned (.int .i64 (cf vm vh)) ∧ ∃ q os'', w' = grow ((grow (wr.drewN n') os').drewN q) os'' := fun n' os' => HC.out _ _ _
      have HV : Hid (d[m]! = vm ∧ d[h]! = vh) := ⟨hvm, hvh⟩
      clear hHc hvm hvh
      have b1 : (m : Int) < d.size := by omega
      have b2 : (h : Int) < d.size := by omega
      by_cases hlv : cf vm vh < 0
      · have hl' : decide (cf vm vh < 0) = true := decide_eq_true hlv
        go_wp2_with fail
        go_quiet_grown (first | (go_at_fn f; refine Calls.grown_of (hcg _ _)))
        go_wp2
        go_roundw
        case rel => exact ⟨i, h, rfl, rfl, hmi, h1, by omega, holdsK_grow enc k _ _ g off d (by show g < wr.heap.size; omega) (show HoldsK enc k (wr.drewN nq) g off d from HHk.out), HLo.out, EndHi.step HS.out HR1.out (by omega) (by rw [HV.out.1, HV.out.2]; exact decide_eq_true hlv), hex.trans (ex_grow' nq osq none (Nat.le_refl _)) hsz' (by simp)⟩
        case measure => simp [intOf]; omega
      · have hl' : decide (cf vm vh < 0) = false := decide_eq_false hlv
        go_wp2_with fail
        go_quiet_grown (first | (go_at_fn f; refine Calls.grown_of (hcg _ _)))
        go_wp2
        go_roundw
        case rel => exact ⟨h + 1, j, by go_num, rfl, by omega, by omega, hjb, holdsK_grow enc k _ _ g off d (by show g < wr.heap.size; omega) (show HoldsK enc k (wr.drewN nq) g off d from HHk.out), EndLo.step HS.out HR1.out (by omega) (by rw [HV.out.1, HV.out.2]; exact decide_eq_false (fun hx => by omega)), HHi.out, hex.trans (ex_grow' nq osq none (Nat.le_refl _)) hsz' (by simp)⟩
        case measure => simp [intOf]; omega
    · obtain rfl : i = j := by omega
      obtain ⟨w0, rfl⟩ : ∃ w0 : World, w0 = wr := ⟨_, rfl⟩
      go_wp2
      go_loopw [17] (fun vk wr => ∃ (t : Nat) (dk : Array α), vk = .int .i64 t ∧ i ≤ t ∧ t ≤ m ∧ HoldsK enc k wr g off dk ∧ By (rotIx t m (m + 1)) d dk ∧ Ex w.heap.size (some g) w wr) (fun vk _ => (intOf vk).toNat - i)
      case atStart => exact ⟨m, d, rfl, by omega, Nat.le_refl _, HHk.out, By.refl _ _ (fun t _ => rotIx_id (Nat.le_refl _) (by omega) (Or.inl rfl)), hex⟩
      case round =>
        clear HHk hex hsz'
        obtain ⟨t, dk, rfl, hat, hti, hHk, hby, hex⟩ := hrel
        have HHk := Lib.hid hHk
        have HBy := Lib.hid hby
        clear hHk hby
        have hsz' := hex.size
        by_cases hlt2 : (i : Int) < t
        · obtain ⟨t, rfl⟩ : ∃ t', t = t' + 1 := ⟨t - 1, by omega⟩
          have hlt3 : (i : Int) < (t : Int) + 1 := by omega
          have e0 : ((t : Int) + 1).toNat = t + 1 := by omega
          have p0 : (0 : Int) ≤ (t : Int) + 1 := by omega
          have q0 : (t : Int) + 1 < d.size := by omega
          have q1 : (t : Int) < d.size := by omega
          have hwp : IntKind.i64.wrap (t : Int) = (t : Int) := by rw [IntKind.wrap_i64]; omega
          have hHd : HoldsK enc k wr.drew g off dk := HHk.out
          have hds : dk.size = d.size := HBy.out.1
          obtain ⟨vx, hvx⟩ : ∃ v, dk[t + 1]! = v := ⟨_, rfl⟩
          obtain ⟨vy, hvy⟩ : ∃ v, dk[t]! = v := ⟨_, rfl⟩
          have bnd : ∀ x, x < dk.size → x * k + k ≤ dk.size * k := fun x hx => by
            have := Nat.mul_le_mul_right k (show x + 1 ≤ dk.size from hx); rwa [Nat.add_mul, Nat.one_mul] at this
          have lx : Sem.run P (loadCellsFrom ⟨g, off + (t + 1) * k, none⟩ 0 k #[]) wr.drew = .ok (enc vx).toArray wr.drew := by rw [← hvx]; exact run_loadCellsFrom_list P _ _ _ k (HK.out _) (HoldsK.cells hHd HK.out (by omega))
          have ly : Sem.run P (loadCellsFrom ⟨g, off + (t) * k, none⟩ 0 k #[]) wr.drew = .ok (enc vy).toArray wr.drew := by rw [← hvy]; exact run_loadCellsFrom_list P _ _ _ k (HK.out _) (HoldsK.cells hHd HK.out (by omega))
          have s1 : Sem.run P (storeCells ⟨g, off + (t + 1) * k, none⟩ (enc vy) 0) wr.drew = .ok () (wr.drew.setCells g (off + (t + 1) * k) (enc vy)) := stores_of_holds P hHd ((t + 1) * k) _ (by rw [HK.out, size_flatK]; exact bnd (t + 1) (by omega)) (H1.out _)
          have s2 : Sem.run P (storeCells ⟨g, off + (t) * k, none⟩ (enc vx) 0) (wr.drew.setCells g (off + (t + 1) * k) (enc vy)) = .ok () ((wr.drew.setCells g (off + (t + 1) * k) (enc vy)).setCells g (off + (t) * k) (enc vx)) :=
            stores_of_holds P (holds_setCells_c hHd ((t + 1) * k) _ (by rw [HK.out, size_flatK]; exact bnd (t + 1) (by omega))) ((t) * k) _ (by rw [HK.out, size_setMany, size_flatK]; exact bnd (t) (by omega)) (H1.out _)
          have hsX : (enc vx).length = k := HK.out _
          have hsY : (enc vy).length = k := HK.out _
          clear bnd hHd
          obtain ⟨cX, hcX⟩ : ∃ c, c = enc vx := ⟨_, rfl⟩
          obtain ⟨cY, hcY⟩ : ∃ c, c = enc vy := ⟨_, rfl⟩
          rw [← hcX] at lx hsX
          rw [← hcY] at ly hsY
          rw [← hcY] at s1
          rw [← hcX, ← hcY] at s2
          have CC : Hid (cX = enc vx ∧ cY = enc vy ∧ dk[t + 1]! = vx ∧ dk[t]! = vy) := ⟨hcX, hcY, hvx, hvy⟩
          clear hcX hcY hvx hvy hds
          go_wp2_with fail
          go_big_region_o
          all_goals go_wp2
          go_roundw
          case rel =>
            have hds : dk.size = d.size := HBy.out.1
            obtain ⟨k1, k2⟩ := swapWorldK enc k HK.out wr g off dk (t + 1) t HHk.out (by omega) (by omega) (by omega)
            refine ⟨t, swp dk (t + 1) t, by first | rfl | go_num | (congr 1; omega), by omega, by omega, ?_, HBy.out.down hti (by omega), ?_⟩
            · rw [CC.out.1, CC.out.2.1, ← CC.out.2.2.1, ← CC.out.2.2.2]; exact k1
            · rw [CC.out.1, CC.out.2.1, ← CC.out.2.2.1, ← CC.out.2.2.2]; exact hex.trans k2 hsz' (fun q e _ => by cases e; rfl)
          case measure => simp [intOf] <;> omega
        · go_wp2
          refine bodyPost_ret (results_none rfl _ _ _) rfl ?_
          have h0 := HBy.out
          rw [show t = i by omega] at h0
          obtain ⟨x1, x2⟩ := one_behind HS.out h0 hmi (by omega) (by omega) HR1.out HLo.out HHi.out
          rw [← HO.out] at x1 x2
          exact ⟨rfl, dk, HHk.out, x1, x2, hex⟩
end Go.Proofs.YtaghfcnpnfhacaaGreat

namespace Go.Proofs.YtaghfcnpnfhacaaGreat
open Go.RowKit Go.Sort
variable {P : Program} {α : Type} [Inhabited α]

set_option maxHeartbeats 4000000 in
set_option maxRecDepth 1000000 in
theorem swapHeir_any {k : Nat} (L : LayHeir P k) (enc : α → List Value) (hk : ∀ x, (enc x).length = k) (h1 : ∀ x, ∀ v ∈ enc x, v.oneCell' = true) (g off cap x y n s : Nat) (X Y N : Int) (hX : (x : Int) = X) (hY : (y : Int) = Y) (hN : (n : Int) = N) (F : Value) (d : Array α) (w : World) (hH : HoldsK enc k w g off d) (hg : g < w.heap.size) (hxy : x + n ≤ y) (hy : y + n ≤ d.size) (hsz : d.size < 4611686018427387904) (hs : d.size = s) :
    Calls P 367 #[.slice (some ⟨g, off, none⟩) s cap, .int .i64 X, .int .i64 Y, .int .i64 N, F] w fun e w' =>
      e = .returned (.tuple #[]) ∧ ∃ d', HoldsK enc k w' g off d' ∧ By (swIx x y n) d d' ∧ Ex w.heap.size (some g) w w' := by
  subst hX hY hN hs
  have mixed := L.mixed; have t0 := L.t0; have a0 := L.a0; have z0 := L.z0; have v0 := L.v0; have t1 := L.t1; have a1 := L.a1; have z1 := L.z1; have v1 := L.v1; have t2 := L.t2; have a2 := L.a2; have z2 := L.z2; have v2 := L.v2; have t3 := L.t3; have a3 := L.a3; have z3 := L.z3; have v3 := L.v3; have t4 := L.t4; have a4 := L.a4; have z4 := L.z4; have v4 := L.v4; have t5 := L.t5; have a5 := L.a5; have z5 := L.z5; have v5 := L.v5; have aE := L.aE; have zE := L.zE
  have u4 := run_underlying L.t4
  have HK : Hid (∀ x, (enc x).length = k) := hk
  have H1 : Hid (∀ x, ∀ v ∈ enc x, v.oneCell' = true) := h1
  clear hk h1
  go_enter L.fS, Tryz.ntmps367
  go_wp2
  go_loopw [10] (fun vi wr => ∃ (i : Nat) (dk : Array α), vi = .int .i64 i ∧ i ≤ n ∧ HoldsK enc k wr g off dk ∧ By (swIx x y i) d dk ∧ Ex w.heap.size (some g) w wr) (fun vi _ => n - (intOf vi).toNat)
  case atStart => exact ⟨0, d, rfl, Nat.zero_le _, hH, By.swap0 _ _ _, Ex.refl _ _ _⟩
  case round =>
    obtain ⟨i, dk, rfl, hi, hHk, hby, hex⟩ := hrel
    have hdk := hby.1
    have hsz' := hex.size
    by_cases hlt : i < n
    · have hHd : HoldsK enc k wr.drew g off dk := hHk
      obtain ⟨vx, hvx⟩ : ∃ v, dk[x + i]! = v := ⟨_, rfl⟩
      obtain ⟨vy, hvy⟩ : ∃ v, dk[y + i]! = v := ⟨_, rfl⟩
      have bnd : ∀ x, x < dk.size → x * k + k ≤ dk.size * k := fun x hx => by
        have := Nat.mul_le_mul_right k (show x + 1 ≤ dk.size from hx); rwa [Nat.add_mul, Nat.one_mul] at this
      have e0 : ((x : Int) + i).toNat = x + i := by omega
      have e1 : ((y : Int) + i).toNat = y + i := by omega
      have p0 : (0 : Int) ≤ (x : Int) + i := by omega
      have p1 : (0 : Int) ≤ (y : Int) + i := by omega
      have q0 : (x : Int) + i < d.size := by omega
      have q1 : (y : Int) + i < d.size := by omega
      have lx : Sem.run P (loadCellsFrom ⟨g, off + (x + i) * k, none⟩ 0 k #[]) wr.drew = .ok (enc vx).toArray wr.drew := by rw [← hvx]; exact run_loadCellsFrom_list P _ _ _ k (HK.out _) (HoldsK.cells hHd HK.out (by omega))
      have ly : Sem.run P (loadCellsFrom ⟨g, off + (y + i) * k, none⟩ 0 k #[]) wr.drew = .ok (enc vy).toArray wr.drew := by rw [← hvy]; exact run_loadCellsFrom_list P _ _ _ k (HK.out _) (HoldsK.cells hHd HK.out (by omega))
      have s1 : Sem.run P (storeCells ⟨g, off + (x + i) * k, none⟩ (enc vy) 0) wr.drew = .ok () (wr.drew.setCells g (off + (x + i) * k) (enc vy)) := stores_of_holds P hHd ((x + i) * k) _ (by rw [HK.out, size_flatK]; exact bnd (x + i) (by omega)) (H1.out _)
      have s2 : Sem.run P (storeCells ⟨g, off + (y + i) * k, none⟩ (enc vx) 0) (wr.drew.setCells g (off + (x + i) * k) (enc vy)) = .ok () ((wr.drew.setCells g (off + (x + i) * k) (enc vy)).setCells g (off + (y + i) * k) (enc vx)) :=
        stores_of_holds P (holds_setCells_c hHd ((x + i) * k) _ (by rw [HK.out, size_flatK]; exact bnd (x + i) (by omega))) ((y + i) * k) _ (by rw [HK.out, size_setMany, size_flatK]; exact bnd (y + i) (by omega)) (H1.out _)
      have hsX : (enc vx).length = k := HK.out _
      have hsY : (enc vy).length = k := HK.out _
      clear bnd
      have HHk := Lib.hid hHk
      have HBy := Lib.hid hby
      clear hHd hHk hby
      obtain ⟨cX, hcX⟩ : ∃ c, c = enc vx := ⟨_, rfl⟩
      obtain ⟨cY, hcY⟩ : ∃ c, c = enc vy := ⟨_, rfl⟩
      rw [← hcX] at lx hsX
      rw [← hcY] at ly hsY
      rw [← hcY] at s1
      rw [← hcX, ← hcY] at s2
      have CC : Hid (cX = enc vx ∧ cY = enc vy ∧ dk[x + i]! = vx ∧ dk[y + i]! = vy) := ⟨hcX, hcY, hvx, hvy⟩
      clear hcX hcY hvx hvy
      have HD := Lib.hid hdk
      clear hdk
      go_wp2_with fail
      go_big_region_o
      all_goals go_wp2
      go_roundw
      case rel =>
        have hdk := HD.out
        obtain ⟨k1, k2⟩ := swapWorldK enc k HK.out wr g off dk (x + i) (y + i) HHk.out (by omega) (by omega) (by omega)
        refine ⟨i + 1, swp dk (x + i) (y + i), by go_num, by omega, ?_, HBy.out.swapS (by omega) (by omega), ?_⟩
        · rw [CC.out.1, CC.out.2.1, ← CC.out.2.2.1, ← CC.out.2.2.2]; exact k1
        · rw [CC.out.1, CC.out.2.1, ← CC.out.2.2.1, ← CC.out.2.2.2]; exact hex.trans k2 hsz' (fun q e _ => by cases e; rfl)
      case measure => simp [intOf]; omega
    · obtain rfl : i = n := by omega
      go_wp2
      go_end0
      exact ⟨rfl, dk, hHk, hby, hex⟩
end Go.Proofs.YtaghfcnpnfhacaaGreat

namespace Go.Proofs.YtaghfcnpnfhacaaGreat
open Go.RowKit Go.Sort
variable {P : Program} {α : Type} [Inhabited α]

/-- What is left of a rotation: behind f the rotation of [m - i, m + j) about m gives the whole. -/
def RotLeft (f : Nat → Nat) (a m b i j n : Nat) : Prop := (∀ t, t < n → f t < n) ∧ ∀ t, t < n → f (rotIx (m - i) m (m + j) t) = rotIx a m b t
theorem RotLeft.one {f : Nat → Nat} {a m b i j n : Nat} (h : RotLeft f a m b i j n) (hi : i ≤ m) (hj : j < i) (hm : m + j ≤ n) : RotLeft (fun t => f (swIx (m - i) m j t)) a m b (i - j) j n :=
  ⟨fun t ht => h.1 _ (swIx_lt (by omega) (by omega) ht), fun t ht => by
    show f (swIx (m - i) m j (rotIx (m - (i - j)) m (m + j) t)) = _
    rw [show m - (i - j) = m - i + j by omega, rot_step1 hi hj]; exact h.2 t ht⟩
theorem RotLeft.two {f : Nat → Nat} {a m b i j n : Nat} (h : RotLeft f a m b i j n) (hi : i ≤ m) (hj : i < j) (hm : m + j ≤ n) : RotLeft (fun t => f (swIx (m - i) (m + j - i) i t)) a m b i (j - i) n :=
  ⟨fun t ht => h.1 _ (swIx_lt (by omega) (by omega) ht), fun t ht => by
    show f (swIx (m - i) (m + j - i) i (rotIx (m - i) m (m + (j - i)) t)) = _
    rw [rot_step2 hi hj]; exact h.2 t ht⟩

set_option maxHeartbeats 4000000 in
set_option maxRecDepth 1000000 in
theorem rotHeir_any {k : Nat} (L : LayHeir P k) (enc : α → List Value) (hk : ∀ x, (enc x).length = k) (h1 : ∀ x, ∀ v ∈ enc x, v.oneCell' = true) (g off cap a m b s : Nat) (A M B : Int) (hA : (a : Int) = A) (hM : (m : Int) = M) (hB : (b : Int) = B) (F : Value) (d : Array α) (w : World) (hH : HoldsK enc k w g off d) (hg : g < w.heap.size) (ham : a < m) (hmb : m < b) (hb : b ≤ d.size) (hsz : d.size < 4611686018427387904) (hs : d.size = s) :
    Calls P 351 #[.slice (some ⟨g, off, none⟩) s cap, .int .i64 A, .int .i64 M, .int .i64 B, F] w fun e w' =>
      e = .returned (.tuple #[]) ∧ ∃ d', HoldsK enc k w' g off d' ∧ By (rotIx a m b) d d' ∧ Ex w.heap.size (some g) w w' := by
  subst hA hM hB hs
  have mixed := L.mixed; have t0 := L.t0; have a0 := L.a0; have z0 := L.z0; have v0 := L.v0; have t1 := L.t1; have a1 := L.a1; have z1 := L.z1; have v1 := L.v1; have t2 := L.t2; have a2 := L.a2; have z2 := L.z2; have v2 := L.v2; have t3 := L.t3; have a3 := L.a3; have z3 := L.z3; have v3 := L.v3; have t4 := L.t4; have a4 := L.a4; have z4 := L.z4; have v4 := L.v4; have t5 := L.t5; have a5 := L.a5; have z5 := L.z5; have v5 := L.v5; have aE := L.aE; have zE := L.zE
  have eS : ∀ args w, (callFunc 367 args).run P w = .ok (.enter 367 args) w := enters_of L.fS (by kernel_rfl) rfl
  have HK := Lib.hid hk
  have H1 := Lib.hid h1
  clear hk h1
  go_enter L.fR, Tryz.ntmps351
  go_wp2
  go_loopw [10, 11] (fun vi vj wr => ∃ (i j : Nat) (f : Nat → Nat) (dk : Array α), vi = .int .i64 i ∧ vj = .int .i64 j ∧ 1 ≤ i ∧ 1 ≤ j ∧ i ≤ m ∧ m + j ≤ d.size ∧ HoldsK enc k wr g off dk ∧ By f d dk ∧ RotLeft f a m b i j d.size ∧ Ex w.heap.size (some g) w wr) (fun vi vj _ => (intOf vi + intOf vj).toNat)
  case atStart => exact ⟨m - a, b - m, id, d, by congr 1; omega, by congr 1; omega, by omega, by omega, by omega, by omega, hH, By.refl _ _ (fun _ _ => rfl), ⟨fun _ h => h, fun t _ => by show rotIx _ _ _ _ = _; rw [show m - (m - a) = a by omega, show m + (b - m) = b by omega]⟩, Ex.refl _ _ _⟩
  case round =>
    obtain ⟨i, j, f, dk, rfl, rfl, hi, hj, him, hjm, hHk, hby, hrl, hex⟩ := hrel
    have HH := Lib.hid hHk
    have HB := Lib.hid hby
    have HR := Lib.hid hrl
    clear hHk hby hrl
    have hsz' := hex.size
    by_cases hne : i = j
    · have hd : ((i : Int) != (j : Int)) = false := by simp [hne]
      have HN := Lib.hid hne
      clear hne
      go_wp2_with fail
      refine (swapHeir_any L enc HK.out H1.out g off cap (m - i) m i _ _ _ _ (by omega) rfl rfl _ dk _ HH.out (by omega) (by omega) (by have := HB.out.1; have := HN.out; omega) (by have := HB.out.1; omega) HB.out.1).mono ?_
      rintro e w' ⟨rfl, d', hH', hby', hex'⟩
      go_wp2
      go_end0
      refine ⟨rfl, d', hH', (HB.out.trans hby' (fun t ht => swIx_lt (by omega) (by have := HN.out; omega) ht)).congr (fun t ht => ?_), hex.trans hex' hsz' (fun q e _ => by cases e; rfl)⟩
      show f (swIx (m - i) m i t) = _
      rw [rot_last him]
      have := HR.out.2 t ht
      rwa [← HN.out] at this
    · have hd : ((i : Int) != (j : Int)) = true := by simp; omega
      by_cases hlt : j < i
      · have hc : decide ((j : Int) < i) = true := decide_eq_true (by omega)
        go_wp2_with fail
        refine (swapHeir_any L enc HK.out H1.out g off cap (m - i) m j _ _ _ _ (by omega) rfl rfl _ dk _ HH.out (by omega) (by omega) (by have := HB.out.1; omega) (by have := HB.out.1; omega) HB.out.1).mono ?_
        rintro e w' ⟨rfl, d', hH', hby', hex'⟩
        go_wp2
        go_roundw
        case rel => exact ⟨i - j, j, _, d', by congr 1; omega, rfl, by omega, hj, by omega, hjm, hH', HB.out.trans hby' (fun t ht => swIx_lt (by omega) (by omega) ht), HR.out.one him hlt hjm, hex.trans hex' hsz' (fun q e _ => by cases e; rfl)⟩
        case measure => simp [intOf]; omega
      · have hc : decide ((j : Int) < i) = false := decide_eq_false (by omega)
        go_wp2_with fail
        refine (swapHeir_any L enc HK.out H1.out g off cap (m - i) (m + j - i) i _ _ _ _ (by omega) (by omega) rfl _ dk _ HH.out (by omega) (by omega) (by have := HB.out.1; omega) (by have := HB.out.1; omega) HB.out.1).mono ?_
        rintro e w' ⟨rfl, d', hH', hby', hex'⟩
        go_wp2
        go_roundw
        case rel => exact ⟨i, j - i, _, d', rfl, by congr 1; omega, hi, by omega, him, by omega, hH', HB.out.trans hby' (fun t ht => swIx_lt (by omega) (by omega) ht), HR.out.two him (by omega) hjm, hex.trans hex' hsz' (fun q e _ => by cases e; rfl)⟩
        case measure => simp [intOf]; omega
end Go.Proofs.YtaghfcnpnfhacaaGreat

namespace Go.Proofs.YtaghfcnpnfhacaaGreat
open Go.RowKit Go.Sort
variable {P : Program} {α : Type} [Inhabited α]

/-- The merge's contract for at most N elements. -/
def SymOKHeir (P : Program) (k : Nat) (enc : α → List Value) (cf : α → α → Int) (F : Value) (g off cap s N : Nat) : Prop :=
  ∀ (a m b : Nat) (A M B : Int) (d : Array α) (w : World), (a : Int) = A → (m : Int) = M → (b : Int) = B → HoldsK enc k w g off d → g < w.heap.size → a < m → m < b → b ≤ d.size → b - a ≤ N → d.size = s → SortedIn (ltOf cf) a m d → SortedIn (ltOf cf) m b d →
    Calls P 328 #[.slice (some ⟨g, off, none⟩) s cap, .int .i64 A, .int .i64 M, .int .i64 B, F] w fun e w' =>
      e = .returned (.tuple #[]) ∧ ∃ d', HoldsK enc k w' g off d' ∧ SM (ltOf cf) a b d d' ∧ SortedIn (ltOf cf) a b d' ∧ Ex w.heap.size (some g) w w'
end Go.Proofs.YtaghfcnpnfhacaaGreat

namespace Go.Proofs.YtaghfcnpnfhacaaGreat
open Go.Sort
variable {α : Type} [Inhabited α]

theorem ins_sm {lt : α → α → Bool} (hS : SWO lt) (d : Array α) (a b : Nat) (hab : a ≤ b) (hb : b ≤ d.size) : SM lt a b d (insertionSort lt d a b) ∧ SortedIn lt a b (insertionSort lt d a b) := by
  obtain ⟨h1, h2⟩ := insertionSort_holds hS d a b hab hb
  have h3 : PermIn 0 d.size d (insertionSort lt d a b) := permIn_mono d _ a b 0 d.size (Nat.zero_le _) hb (Nat.le_refl _) h1
  refine ⟨⟨h1.1, h1.2.1, fun i i1 i2 => ?_, ?_, fun p hp => insertionSort_filter hp d a b hb⟩, h2⟩
  · exact permIn_all d _ a b (fun x => ∃ j, a ≤ j ∧ j < b ∧ x = d[j]!) hb h1 (fun i i1 i2 => ⟨i, i1, i2, rfl⟩) i i1 i2
  · have := h3.2.2
    rwa [Array.extract_eq_self_of_le (by rw [h1.1]; exact Nat.le_refl _), Array.extract_eq_self_of_le (Nat.le_refl _)] at this

/-- All blocks of s places are ascending. -/
def Runs (lt : α → α → Bool) (s n : Nat) (d : Array α) : Prop := ∀ j, SortedIn lt (j * s) (min (j * s + s) n) d
/-- Blocks of 2 s places below a are ascending, and those of s from a on; a = 2 s k. -/
structure Mid (lt : α → α → Bool) (s n k a : Nat) (d : Array α) : Prop where
  at_ : a = k * (2 * s)
  low : ∀ j, j < k → SortedIn lt (j * (2 * s)) (j * (2 * s) + 2 * s) d
  high : ∀ j, 2 * k ≤ j → SortedIn lt (j * s) (min (j * s + s) n) d

theorem sorted_sub {lt : α → α → Bool} {a b a' b' : Nat} {d : Array α} (h : SortedIn lt a b d) (ha : a ≤ a') (hb : b' ≤ b) : SortedIn lt a' b' d := fun i j h1 h2 h3 => h i j (by omega) h2 (by omega)
theorem sorted_far {lt : α → α → Bool} {a b x y : Nat} {d d' : Array α} (h : SM lt a b d d') (hb : y ≤ a ∨ b ≤ x) (r : SortedIn lt x y d) : SortedIn lt x y d' := fun i j h1 h2 h3 => by
  rw [h.out i (by omega), h.out j (by omega)]; exact r i j h1 h2 h3

theorem mul_facts (k s : Nat) : (2 * k) * s = k * (2 * s) ∧ (2 * k + 1) * s = k * (2 * s) + s ∧ (k + 1) * (2 * s) = k * (2 * s) + 2 * s := by
  refine ⟨by rw [Nat.mul_comm 2 k, Nat.mul_assoc], by rw [Nat.add_mul, Nat.mul_comm 2 k, Nat.mul_assoc, Nat.one_mul], by rw [Nat.add_mul, Nat.one_mul]⟩
theorem Mid.start {lt : α → α → Bool} {s n : Nat} {d : Array α} (h : Runs lt s n d) : Mid lt s n 0 0 d := ⟨by simp, fun j hj => by omega, fun j _ => h j⟩
theorem Mid.first {lt : α → α → Bool} {s n k a : Nat} {d : Array α} (h : Mid lt s n k a d) : SortedIn lt a (min (a + s) n) d := by
  have := h.high (2 * k) (Nat.le_refl _)
  rwa [(mul_facts k s).1, ← h.at_] at this
theorem Mid.second {lt : α → α → Bool} {s n k a : Nat} {d : Array α} (h : Mid lt s n k a d) : SortedIn lt (a + s) (min (a + s + s) n) d := by
  have := h.high (2 * k + 1) (by omega)
  rwa [(mul_facts k s).2.1, ← h.at_] at this
theorem Mid.step {lt : α → α → Bool} {s n k a : Nat} {d d' : Array α} (h : Mid lt s n k a d) (hs : SM lt a (a + 2 * s) d d') (hr : SortedIn lt a (a + 2 * s) d') : Mid lt s n (k + 1) (a + 2 * s) d' := by
  have hm := mul_facts k s
  have ha := h.at_
  refine ⟨by rw [hm.2.2, ← ha], fun j hj => ?_, fun j hj => ?_⟩
  · by_cases e : j = k
    · subst e; rw [← ha]; exact hr
    · refine sorted_far hs (Or.inl ?_) (h.low j (by omega))
      have := Nat.mul_le_mul_right (2 * s) (show j + 1 ≤ k by omega)
      rw [Nat.add_mul, Nat.one_mul] at this
      omega
  · refine sorted_far hs (Or.inr ?_) (h.high j (by omega))
    have := Nat.mul_le_mul_right s (show 2 * (k + 1) ≤ j by omega)
    rw [(mul_facts (k + 1) s).1, hm.2.2] at this
    omega
/-- The last pair: what is left behind a is ascending. -/
theorem Mid.close {lt : α → α → Bool} {s n k a : Nat} {d d' : Array α} (h : Mid lt s n k a d) (hn : n < a + 2 * s) (hs : SM lt a n d d') (hr : SortedIn lt a n d') : Runs lt (2 * s) n d' := fun j => by
  have ha := h.at_
  by_cases e : j < k
  · refine sorted_far hs (Or.inl ?_) (sorted_sub (h.low j e) (Nat.le_refl _) (by omega))
    have := Nat.mul_le_mul_right (2 * s) (show j + 1 ≤ k by omega)
    rw [Nat.add_mul, Nat.one_mul] at this
    omega
  · by_cases e2 : j = k
    · subst e2; rw [← ha]; exact sorted_sub hr (Nat.le_refl _) (by omega)
    · intro i1 i2 x1 x2 x3
      have := Nat.mul_le_mul_right (2 * s) (show k + 1 ≤ j by omega)
      rw [(mul_facts k s).2.2] at this
      omega
theorem Runs.whole {lt : α → α → Bool} {s n : Nat} {d : Array α} (h : Runs lt s n d) (hn : n ≤ s) : SortedIn lt 0 n d := by
  have := h 0
  rwa [Nat.zero_mul, Nat.zero_add, Nat.min_eq_right hn] at this
/-- The first blocks, of s places each. -/
structure Head (lt : α → α → Bool) (s k a : Nat) (d : Array α) : Prop where
  at_ : a = k * s
  low : ∀ j, j < k → SortedIn lt (j * s) (j * s + s) d
theorem Head.start (lt : α → α → Bool) (s : Nat) (d : Array α) : Head lt s 0 0 d := ⟨by simp, fun j hj => by omega⟩
theorem Head.step {lt : α → α → Bool} {s k a : Nat} {d d' : Array α} (h : Head lt s k a d) (hs : SM lt a (a + s) d d') (hr : SortedIn lt a (a + s) d') : Head lt s (k + 1) (a + s) d' := by
  have ha := h.at_
  refine ⟨by rw [Nat.add_mul, Nat.one_mul, ← ha], fun j hj => ?_⟩
  by_cases e : j = k
  · subst e; rw [← ha]; exact hr
  · refine sorted_far hs (Or.inl ?_) (h.low j (by omega))
    have := Nat.mul_le_mul_right s (show j + 1 ≤ k by omega)
    rw [Nat.add_mul, Nat.one_mul] at this
    omega
theorem Head.close {lt : α → α → Bool} {s n k a : Nat} {d d' : Array α} (h : Head lt s k a d) (hn : n < a + s) (hs : SM lt a n d d') (hr : SortedIn lt a n d') : Runs lt s n d' := fun j => by
  have ha := h.at_
  by_cases e : j < k
  · refine sorted_far hs (Or.inl ?_) (sorted_sub (h.low j e) (Nat.le_refl _) (by omega))
    have := Nat.mul_le_mul_right s (show j + 1 ≤ k by omega)
    rw [Nat.add_mul, Nat.one_mul] at this
    omega
  · by_cases e2 : j = k
    · subst e2; rw [← ha]; exact sorted_sub hr (Nat.le_refl _) (by omega)
    · intro i1 i2 x1 x2 x3
      have := Nat.mul_le_mul_right s (show k + 1 ≤ j by omega)
      rw [Nat.add_mul, Nat.one_mul] at this
      omega

/-- d' is d, sorted, with the order of equals kept. -/
def Stab (lt : α → α → Bool) (d d' : Array α) : Prop :=
  d'.size = d.size ∧ SortedIn lt 0 d.size d' ∧ d'.toList.Perm d.toList ∧ ∀ p, Kind lt p → d'.toList.filter p = d.toList.filter p
end Go.Proofs.YtaghfcnpnfhacaaGreat

namespace Go.Proofs.YtaghfcnpnfhacaaGreat
open Go.Sort
variable {α : Type} [Inhabited α]

/-- Element j stays: the first one, and each one that is not eq to the one before. -/
def stays (eq : α → α → Bool) (d : Array α) (j : Nat) : Bool := decide (j = 0) || !eq d[j]! d[j - 1]!
/-- What stays of the first n elements. -/
def cpt (eq : α → α → Bool) (d : Array α) : Nat → List α
  | 0 => []
  | n + 1 => if stays eq d n = true then cpt eq d n ++ [d[n]!] else cpt eq d n
theorem cpt_le (eq : α → α → Bool) (d : Array α) (n : Nat) : (cpt eq d n).length ≤ n := by
  induction n with
  | zero => simp [cpt]
  | succ n ih => rw [cpt]; split
                 · simp; omega
                 · omega
theorem cpt_yes {eq : α → α → Bool} {d : Array α} {n : Nat} (h : stays eq d n = true) : cpt eq d (n + 1) = cpt eq d n ++ [d[n]!] := by rw [cpt, if_pos h]
theorem cpt_no {eq : α → α → Bool} {d : Array α} {n : Nat} (h : stays eq d n = false) : cpt eq d (n + 1) = cpt eq d n := by rw [cpt, if_neg (by simp [h])]
theorem stays_of {eq : α → α → Bool} {d : Array α} {n : Nat} (h0 : 0 < n) (b : Bool) (h : eq d[n]! d[n - 1]! = b) : stays eq d n = !b := by
  unfold stays
  rw [h, decide_eq_false (by omega)]; rfl
theorem cpt_all {eq : α → α → Bool} {d : Array α} {n : Nat} (h : ∀ j, j < n → stays eq d j = true) (hn : n ≤ d.size) : cpt eq d n = d.toList.take n := by
  induction n with
  | zero => simp [cpt]
  | succ n ih =>
    rw [cpt_yes (h n (by omega)), ih (fun j hj => h j (by omega)) (by omega), List.take_add_one]
    congr 1
    rw [getElem!_pos d n (by omega)]
    simp [show n < d.size by omega]
/-- The inner loop: m elements are done, the row begins with what stays of them, and from m - 1 on it is as it was. -/
structure CInv (eq : α → α → Bool) (d : Array α) (m kk : Nat) (dk : Array α) : Prop where
  len : (cpt eq d m).length = kk
  lt : kk < m
  size : dk.size = d.size
  done : ∀ t, t < kk → dk[t]! = (cpt eq d m)[t]!
  rest : ∀ t, m - 1 ≤ t → dk[t]! = d[t]!
theorem CInv.start {eq : α → α → Bool} {d : Array α} {k : Nat} (h : ∀ j, j < k → stays eq d j = true) (hk : stays eq d k = false) (hs : k < d.size) : CInv eq d (k + 1) k d := by
  have e : cpt eq d (k + 1) = d.toList.take k := by rw [cpt_no hk, cpt_all h (by omega)]
  refine ⟨by rw [e]; simp; omega, by omega, rfl, fun t ht => ?_, fun _ _ => rfl⟩
  rw [e, getElem!_pos d t (by omega), getElem!_pos (d.toList.take k) t (by simp; omega)]
  simp
theorem CInv.skip {eq : α → α → Bool} {d dk : Array α} {m kk : Nat} (h : CInv eq d m kk dk) (hs : stays eq d m = false) : CInv eq d (m + 1) kk dk := by
  refine ⟨by rw [cpt_no hs]; exact h.len, by have := h.lt; omega, h.size, fun t ht => by rw [cpt_no hs]; exact h.done t ht, fun t ht => h.rest t (by omega)⟩
theorem CInv.keep {eq : α → α → Bool} {d dk : Array α} {m kk : Nat} (h : CInv eq d m kk dk) (hs : stays eq d m = true) (hm : m < d.size) : CInv eq d (m + 1) (kk + 1) (dk.setIfInBounds kk d[m]!) := by
  have hlt := h.lt
  have hsz := h.size
  have hl := h.len
  refine ⟨by rw [cpt_yes hs, List.length_append, hl]; rfl, by omega, by simp [hsz], fun t ht => ?_, fun t ht => ?_⟩
  · rw [cpt_yes hs, getElem!_pos (dk.setIfInBounds kk d[m]!) t (by simp; omega), Array.getElem_setIfInBounds, getElem!_pos (cpt eq d m ++ [d[m]!]) t (by simp; omega)]
    · split
      · rename_i e
        subst e
        rw [List.getElem_append_right (by omega)]
        simp [hl]
      · rw [List.getElem_append_left (by omega), ← getElem!_pos dk t (by omega), ← getElem!_pos (cpt eq d m) t (by omega)]
        exact h.done t (by omega)
    · omega
  · by_cases c : t < d.size
    · have e : (dk.setIfInBounds kk d[m]!)[t]! = dk[t]! := by
        rw [getElem!_pos (dk.setIfInBounds kk d[m]!) t (by simp; omega), Array.getElem_setIfInBounds, if_neg (by omega), ← getElem!_pos dk t (by omega)]
        omega
      rw [e]; exact h.rest t (by omega)
    · rw [getElem!_neg (dk.setIfInBounds kk d[m]!) t (by simp; omega), getElem!_neg d t c]
/-- The row's head holds what stays. -/
theorem CInv.head {eq : α → α → Bool} {d dk : Array α} {m kk : Nat} (h : CInv eq d m kk dk) (hm : m ≤ d.size) : (cpt eq d m).toArray.size ≤ dk.size ∧ ∀ t, t < (cpt eq d m).toArray.size → (cpt eq d m).toArray[t]! = dk[t]! := by
  have hl := h.len
  have hlt := h.lt
  have hs := h.size
  refine ⟨by simp [hl]; omega, fun t ht => ?_⟩
  rw [h.done t (by simpa [hl] using ht)]
  simp
end Go.Proofs.YtaghfcnpnfhacaaGreat

namespace Go.Proofs.YtaghfcnpnfhacaaGreat
open Go.RowKit Go.Sort
variable {P : Program} {α : Type} [Inhabited α]

/-- What is asked of a function that tells whether two elements are the same. -/
def EqAtHeir (P : Program) (f : Nat) (cb : Array Value) (enc : α → List Value) (eq : α → α → Bool) : Prop :=
  ∀ (w : World) (x y : α), Calls P f (#[.agg (enc x).toArray, .agg (enc y).toArray] ++ cb) w fun e w' => e = .returned (.bool (eq x y)) ∧ ∃ q os', w' = grow (w.drewN q) os'
theorem shift_at (off k x y : Nat) : off + x * k + y * k = off + (x + y) * k := by rw [Nat.add_mul]; omega
theorem run_clear_k (w : World) (t e ty : TypeId) (z : Value) (k : Nat) (ht : P.underlying t = some (.slice e)) (hv : ∀ w, (zeroValue e).run P w = .ok z w) (hz : z.cells.size = k) (h1 : ∀ v ∈ z.cells, v.oneCell' = true) (b o n c : Nat) (hn : 0 < n)
    (hc : ∀ j, j < n * k → (w.cell? ⟨b, o + j, none⟩).isSome = true) (hf : ∀ j, j < n * k → w.frozen? ⟨b, o + j, none⟩ = false) :
    (Builtin.clear_ #[t] ty #[.slice (some ⟨b, o, none⟩) n c]).run P w = .ok (.tuple #[]) (w.setCells b o (Builtin.zeroCells z.cells n).toList) := by
  have hl : (Builtin.zeroCells z.cells n).toList.length = n * k := by simp [Builtin.zeroCells, hz]
  have hst := run_storeCells_cells (P := P) b o (Builtin.zeroCells z.cells n).toList 0 w (by rw [hl]; simpa using hc) (by rw [hl]; simpa using hf) (by
    intro v hv'
    simp only [Builtin.zeroCells, Array.toList_map, List.mem_map, Array.mem_toList_iff] at hv'
    obtain ⟨i, hi, rfl⟩ := hv'
    by_cases hk : z.cells.size = 0
    · simp [hk] at hi
    · rw [getElem!_pos z.cells _ (Nat.mod_lt _ (by omega))]; exact h1 _ (Array.getElem_mem _))
  simp only [Nat.add_zero] at hst
  obtain ⟨m, rfl⟩ : ∃ m, n = m + 1 := ⟨n - 1, by omega⟩
  simp [Builtin.clear_, run_underlying ht, hv, hst]

set_option maxHeartbeats 8000000 in
set_option maxRecDepth 1000000 in
theorem compactHeir_any {k : Nat} (L : LayHeir P k) (enc : α → List Value) (hk : ∀ x, (enc x).length = k) (h1 : ∀ x, ∀ v ∈ enc x, v.oneCell' = true) (eq : α → α → Bool) (f : Nat) (cb : Array Value)
    (ef : ∀ args w, (callFunc f args).run P w = .ok (.enter f args) w) (hcmp : EqAtHeir P f cb enc eq)
    (fC : P.funcs[218]? = some Tryz.f218)
    (z : Array Value) (hv : ∀ w, (zeroValue 25).run P w = .ok (.agg z) w) (hz : z.size = k) (hz1 : ∀ v ∈ z, v.oneCell' = true)
    (_t6 : P.underlying 228 = some (TypeDesc.func #[25, 25] #[4] false))
    (_a6 : ∀ w, (isAgg 228).run P w = .ok false w) (_z6 : ∀ w, (Go.sizeOf 228).run P w = .ok 1 w)
    (g off cap s : Nat) (d : Array α) (w : World) (hH : HoldsK enc k w g off d) (hg : g < w.heap.size) (hsz : d.size < 1000000000000) (hcap : d.size ≤ cap) (hs : d.size = s) :
    Calls P 218 #[.slice (some ⟨g, off, none⟩) s cap, .func (.func f) #[] cb] w fun e w' =>
      e = .returned (.slice (some ⟨g, off, none⟩) (cpt eq d s).length cap) ∧ HoldsK enc k w' g off (cpt eq d s).toArray ∧ Ex w.heap.size (some g) w w' := by
  subst hs
  have mixed := L.mixed; have t0 := L.t0; have a0 := L.a0; have z0 := L.z0; have v0 := L.v0; have t1 := L.t1; have a1 := L.a1; have z1 := L.z1; have v1 := L.v1; have t2 := L.t2; have a2 := L.a2; have z2 := L.z2; have v2 := L.v2; have t3 := L.t3; have a3 := L.a3; have z3 := L.z3; have v3 := L.v3; have t4 := L.t4; have a4 := L.a4; have z4 := L.z4; have v4 := L.v4; have t5 := L.t5; have a5 := L.a5; have z5 := L.z5; have v5 := L.v5; have aE := L.aE; have zE := L.zE
  have u4 := run_underlying L.t4
  have HK := Lib.hid hk
  have H1 := Lib.hid h1
  have HC := Lib.hid hcmp
  have HHw := Lib.hid hH
  have HZ := Lib.hid (And.intro hv (And.intro hz hz1))
  have same : ∀ wr, (∀ j, j < d.size → stays eq d j = true) → HoldsK enc k wr g off d → (cpt eq d d.size).length = d.size ∧ HoldsK enc k wr g off (cpt eq d d.size).toArray := fun wr hall h => by
    have e := cpt_all hall (Nat.le_refl _)
    rw [e, List.take_of_length_le (by simp)]
    exact ⟨by simp, by simpa using h⟩
  have SAME := Lib.hid same
  clear hk h1 hcmp hH hv hz hz1 same
  by_cases h2 : d.size < 2
  · go_enter fC, Tryz.ntmps218
    go_wp2
    go_ret
    obtain ⟨e1, e2⟩ := SAME.out w (fun j hj => by obtain rfl : j = 0 := (by omega); rfl) HHw.out
    exact ⟨by rw [e1]; rfl, e2, Ex.refl _ _ _⟩
  · go_enter fC, Tryz.ntmps218
    go_wp2
    go_loopw [5] (fun s3 wr => ∃ i : Nat, s3 = .int .i64 i ∧ 1 ≤ i ∧ i ≤ d.size ∧ (∀ j, j < i → stays eq d j = true) ∧ HoldsK enc k wr g off d ∧ Ex w.heap.size (some g) w wr) (fun s3 _ => d.size - (intOf s3).toNat)
    case atStart => exact ⟨1, rfl, Nat.le_refl _, by omega, fun j hj => by obtain rfl : j = 0 := (by omega); rfl, HHw.out, Ex.refl _ _ _⟩
    case round =>
      obtain ⟨i, rfl, hi1, hi, hall, hHk, hex⟩ := hrel
      have HHk := Lib.hid hHk
      have HA := Lib.hid hall
      clear hHk hall
      have hsz' := hex.size
      by_cases hlt : i < d.size
      · obtain ⟨ip, hip⟩ : ∃ ip, ip = i - 1 := ⟨_, rfl⟩
        have hwp : IntKind.i64.wrap ((i : Int) - 1) = (ip : Int) := by rw [IntKind.wrap_i64]; omega
        have b1 : (i : Int) < d.size := by omega
        have b2 : (ip : Int) < d.size := by omega
        have HIP := Lib.hid hip
        clear hip
        have hHc : ∀ n' os', HoldsK enc k (grow (wr.drewN n') os') g off d := fun n' os' => holdsK_grow enc k _ os' g off d (by show g < wr.heap.size; omega) (show HoldsK enc k (wr.drewN n') g off d from HHk.out)
        obtain ⟨v1, hv1⟩ : ∃ v, d[i]! = v := ⟨_, rfl⟩
        obtain ⟨v2, hv2⟩ : ∃ v, d[ip]! = v := ⟨_, rfl⟩
        have l1 : ∀ n' os', Sem.run P (loadCellsFrom ⟨g, off + i * k, none⟩ 0 k #[]) (grow (wr.drewN n') os') = .ok (enc v1).toArray (grow (wr.drewN n') os') := fun n' os' => by
          rw [← hv1, show off + i * k = off + (i) * k by rfl]; exact run_loadCellsFrom_list P _ _ _ k (HK.out _) (HoldsK.cells (hHc n' os') HK.out (by omega))
        have l2 : ∀ n' os', Sem.run P (loadCellsFrom ⟨g, off + ip * k, none⟩ 0 k #[]) (grow (wr.drewN n') os') = .ok (enc v2).toArray (grow (wr.drewN n') os') := fun n' os' => by
          rw [← hv2, show off + ip * k = off + (ip) * k by rfl]; exact run_loadCellsFrom_list P _ _ _ k (HK.out _) (HoldsK.cells (hHc n' os') HK.out (by omega))
        have hcg : ∀ n' os', Calls P f (#[.agg (enc v1).toArray, .agg (enc v2).toArray] ++ cb) (grow (wr.drewN n') os') fun e w' => e = .returned (.bool (eq v1 v2)) ∧ ∃ q os'', w' = grow ((grow (wr.drewN n') os').drewN q) os'' := fun n' os' => HC.out _ _ _
        have HV : Hid (d[i]! = v1 ∧ d[ip]! = v2) := ⟨hv1, hv2⟩
        clear hHc hv1 hv2
        by_cases hlv : eq v1 v2 = true
        · simp only [hlv] at hcg
          go_wp2_with fail
          go_quiet_grown (first | (go_at_fn f; refine Calls.grown_of (hcg _ _)))
          have hc0 : i ≤ cap := by omega
          by_cases hce : cap = i
          · omega
          go_wp2
          obtain ⟨wo, hwo⟩ : ∃ wo : World, wo = grow (wr.drewN nq) osq := ⟨_, rfl⟩
          have hHo : HoldsK enc k wo g off d := by rw [hwo]; exact holdsK_grow enc k _ _ g off d (by show g < wr.heap.size; omega) (show HoldsK enc k (wr.drewN nq) g off d from HHk.out)
          have hexo : Ex w.heap.size (some g) w wo := by rw [hwo]; exact hex.trans (ex_grow' nq osq none (Nat.le_refl _)) hsz' (by simp)
          rw [← hwo]
          have HHo := Lib.hid hHo
          have HD0 : Hid (stays eq d i = false) := by
            have := stays_of (eq := eq) (d := d) (n := i) (by omega) true (by rw [← HIP.out, HV.out.1, HV.out.2]; exact hlv)
            exact this
          clear hHo hwo l1 l2 hcg hlv
          go_loopw [5, 7] (fun s3 s5 wr => ∃ (kk k2 : Nat) (dk : Array α), s3 = .int .i64 kk ∧ s5 = .int .i64 k2 ∧ 1 ≤ k2 ∧ i + k2 ≤ d.size ∧ CInv eq d (i + k2) kk dk ∧ HoldsK enc k wr g off dk ∧ Ex w.heap.size (some g) w wr) (fun _ s5 _ => d.size - (intOf s5).toNat)
          case atStart => exact ⟨i, 1, d, rfl, rfl, Nat.le_refl _, by omega, CInv.start HA.out HD0.out hlt, HHo.out, hexo⟩
          case round =>
            clear HHk HHo HD0 hex hexo hsz' HV
            obtain ⟨kk, k2, dk, rfl, rfl, h1, hle, hI, hHk, hex⟩ := hrel
            have hkk := hI.lt
            have hds := hI.size
            have HI := Lib.hid hI
            have HHk := Lib.hid hHk
            have HDS := Lib.hid hds
            clear hI hHk hds
            have hsz' := hex.size
            by_cases hlt2 : i + k2 < d.size
            · obtain ⟨mp, hmp⟩ : ∃ mp, mp = k2 - 1 := ⟨_, rfl⟩
              have hwp2 : IntKind.i64.wrap ((k2 : Int) - 1) = (mp : Int) := by rw [IntKind.wrap_i64]; omega
              have hl2 : ((d.size - i : Nat) : Int) = (d.size : Int) - i := by omega
              have b3 : (k2 : Int) < (d.size : Int) - i := by omega
              have b4 : (mp : Int) < (d.size : Int) - i := by omega
              have b5 : k2 < d.size - i := by omega
              have b6 : mp < d.size - i := by omega
              have hdz : dk.size = d.size := HDS.out
              have HMP := Lib.hid hmp
              have HDZ := Lib.hid hdz
              clear hmp hdz
              have hHc : ∀ n' os', HoldsK enc k (grow (wr.drewN n') os') g off dk := fun n' os' => holdsK_grow enc k _ os' g off dk (by show g < wr.heap.size; omega) (show HoldsK enc k (wr.drewN n') g off dk from HHk.out)
              obtain ⟨v1, hv1⟩ : ∃ v, dk[i + k2]! = v := ⟨_, rfl⟩
              obtain ⟨v2, hv2⟩ : ∃ v, dk[i + mp]! = v := ⟨_, rfl⟩
              have l1 : ∀ n' os', Sem.run P (loadCellsFrom ⟨g, off + i * k + k2 * k, none⟩ 0 k #[]) (grow (wr.drewN n') os') = .ok (enc v1).toArray (grow (wr.drewN n') os') := fun n' os' => by
                rw [← hv1, show off + i * k + k2 * k = off + (i + k2) * k by exact shift_at _ _ _ _]; exact run_loadCellsFrom_list P _ _ _ k (HK.out _) (HoldsK.cells (hHc n' os') HK.out (by have := HDZ.out; omega))
              have l2 : ∀ n' os', Sem.run P (loadCellsFrom ⟨g, off + i * k + mp * k, none⟩ 0 k #[]) (grow (wr.drewN n') os') = .ok (enc v2).toArray (grow (wr.drewN n') os') := fun n' os' => by
                rw [← hv2, show off + i * k + mp * k = off + (i + mp) * k by exact shift_at _ _ _ _]; exact run_loadCellsFrom_list P _ _ _ k (HK.out _) (HoldsK.cells (hHc n' os') HK.out (by have := HDZ.out; omega))
              have hcg : ∀ n' os', Calls P f (#[.agg (enc v1).toArray, .agg (enc v2).toArray] ++ cb) (grow (wr.drewN n') os') fun e w' => e = .returned (.bool (eq v1 v2)) ∧ ∃ q os'', w' = grow ((grow (wr.drewN n') os').drewN q) os'' := fun n' os' => HC.out _ _ _
              have HV : Hid (dk[i + k2]! = v1 ∧ dk[i + mp]! = v2) := ⟨hv1, hv2⟩
              clear hHc hv1 hv2
              by_cases hlv : eq v1 v2 = true
              · simp only [hlv] at hcg
                go_wp2_with fail
                go_quiet_grown (first | (go_at_fn f; refine Calls.grown_of (hcg _ _)))
                go_wp2
                go_roundw
                case rel => exact ⟨kk, k2 + 1, dk, rfl, by go_num, by omega, by omega, HI.out.skip (stays_of (by omega) true (by
                  have e1 := HI.out.rest (i + k2) (by omega)
                  have e2 := HI.out.rest (i + mp) (by have := HMP.out; omega)
                  rw [show i + k2 - 1 = i + mp by have := HMP.out; omega, ← e1, ← e2, HV.out.1, HV.out.2]; exact hlv)), holdsK_grow enc k _ _ g off dk (by show g < wr.heap.size; omega) (show HoldsK enc k (wr.drewN nq) g off dk from HHk.out), hex.trans (ex_grow' nq osq none (Nat.le_refl _)) hsz' (by simp)⟩
                case measure => simp [intOf]; omega
              · have hlv' : eq v1 v2 = false := by simpa using hlv
                simp only [hlv'] at hcg
                go_wp2_with fail
                go_quiet_grown (first | (go_at_fn f; refine Calls.grown_of (hcg _ _)))
                obtain ⟨wq, hwq⟩ : ∃ wq : World, wq = grow (wr.drewN nq) osq := ⟨_, rfl⟩
                have hHq : HoldsK enc k wq g off dk := by rw [hwq]; exact holdsK_grow enc k _ _ g off dk (by show g < wr.heap.size; omega) (show HoldsK enc k (wr.drewN nq) g off dk from HHk.out)
                have hexq : Ex w.heap.size (some g) w wq := by rw [hwq]; exact hex.trans (ex_grow' nq osq none (Nat.le_refl _)) hsz' (by simp)
                have lq : Sem.run P (loadCellsFrom ⟨g, off + i * k + k2 * k, none⟩ 0 k #[]) wq = .ok (enc v1).toArray wq := by rw [hwq]; exact l1 nq osq
                rw [← hwq]
                have sq : Sem.run P (storeCells ⟨g, off + kk * k, none⟩ (enc v1) 0) wq = .ok () (wq.setCells g (off + kk * k) (enc v1)) := stores_of_holds P hHq (kk * k) _ (by
                  rw [HK.out, size_flatK]
                  have := Nat.mul_le_mul_right k (show kk + 1 ≤ dk.size by have := HDZ.out; omega); rwa [Nat.add_mul, Nat.one_mul] at this) (H1.out _)
                have hsV : (enc v1).length = k := HK.out _
                have HQ := Lib.hid hHq
                have hszq := hexq.size
                clear l1 l2 hcg hwq hHq
                obtain ⟨cV, hcV⟩ : ∃ c, c = enc v1 := ⟨_, rfl⟩
                rw [← hcV] at lq sq hsV
                have CC := Lib.hid hcV
                clear hcV
                have b7 : (kk : Int) < d.size := by omega
                go_wp2
                go_roundw
                case rel =>
                  have e1 := HI.out.rest (i + k2) (by omega)
                  have e2 := HI.out.rest (i + mp) (by have := HMP.out; omega)
                  have hk := HI.out.keep (stays_of (by omega) false (by
                    rw [show i + k2 - 1 = i + mp by have := HMP.out; omega, ← e1, ← e2, HV.out.1, HV.out.2]; exact hlv')) hlt2
                  rw [← e1, HV.out.1] at hk
                  refine ⟨kk + 1, k2 + 1, dk.setIfInBounds kk v1, by go_num, by go_num, by omega, by omega, hk, ?_, hexq.trans (ex_setCells wq g (off + kk * k) cV) hszq (fun q e _ => by cases e; rfl)⟩
                  rw [CC.out]
                  exact holdsK_set HK.out HQ.out kk v1 (by have := HDZ.out; omega)
                case measure => simp [intOf]; omega
            · obtain ⟨n, hn⟩ : ∃ n, n = d.size := ⟨_, rfl⟩
              have hend : i + k2 = d.size := by omega
              have hdz : dk.size = d.size := HDS.out
              have hcl : ∀ ty, (Builtin.clear_ #[42] ty #[.slice (some ⟨g, off + kk * k, none⟩) (d.size - kk) (cap - kk)]).run P wr = .ok (.tuple #[]) (wr.setCells g (off + kk * k) (Builtin.zeroCells z (d.size - kk)).toList) :=
                fun ty => run_clear_k wr _ _ ty (.agg z) k L.t4 HZ.out.1 HZ.out.2.1 HZ.out.2.2 g (off + kk * k) _ _ (by omega) (fun j hj => by
                  have := (HHk.out (kk * k + j) (by rw [size_flatK, hdz]; have := Nat.add_mul kk (d.size - kk) k; rw [show kk + (d.size - kk) = d.size by omega] at this; omega)).1
                  rw [Nat.add_assoc, this]; rfl) (fun j hj => by
                  have := (HHk.out (kk * k + j) (by rw [size_flatK, hdz]; have := Nat.add_mul kk (d.size - kk) k; rw [show kk + (d.size - kk) = d.size by omega] at this; omega)).2
                  rw [Nat.add_assoc]; exact this)
              have hexc := hex.trans (ex_setCells wr g (off + kk * k) (Builtin.zeroCells z (d.size - kk)).toList) hsz' (fun q e _ => by cases e; rfl)
              have hfin : HoldsK enc k (wr.setCells g (off + kk * k) (Builtin.zeroCells z (d.size - kk)).toList) g off (cpt eq d d.size).toArray := by
                have hI := HI.out
                rw [hend] at hI
                obtain ⟨h1, h2⟩ := hI.head (Nat.le_refl _)
                exact holdsK_behind (holdsK_first HHk.out h1 h2) _ _ (by simp [hI.len])
              have hlen : (cpt eq d d.size).length = kk := by have := HI.out.len; rwa [hend] at this
              have FIN := Lib.hid (And.intro hexc (And.intro hfin hlen))
              have b7 : (kk : Int) ≤ d.size := by omega
              have b8 : ¬ (k2 : Int) < (d.size : Int) - i := by omega
              have b9 : ¬ k2 < d.size - i := by omega
              have b10 : (kk : Int) ≤ cap := by omega
              have b11 : kk ≤ cap := by omega
              have b12 : kk ≤ d.size := by omega
              have b13 : ¬ cap = kk := by omega
              clear hexc hfin hlen hend hdz hn
              go_wp2
              go_ret
              exact ⟨by rw [FIN.out.2.2]; rfl, FIN.out.2.1, FIN.out.1⟩
        · have hlv' : eq v1 v2 = false := by simpa using hlv
          simp only [hlv'] at hcg
          go_wp2_with fail
          go_quiet_grown (first | (go_at_fn f; refine Calls.grown_of (hcg _ _)))
          go_wp2
          go_roundw
          case rel => exact ⟨i + 1, by go_num, by omega, by omega, fun j hj => by
            by_cases e : j = i
            · subst e
              exact stays_of (by omega) false (by rw [← HIP.out, HV.out.1, HV.out.2]; exact hlv')
            · exact HA.out j (by omega), holdsK_grow enc k _ _ g off d (by show g < wr.heap.size; omega) (show HoldsK enc k (wr.drewN nq) g off d from HHk.out), hex.trans (ex_grow' nq osq none (Nat.le_refl _)) hsz' (by simp)⟩
          case measure => simp [intOf]; omega
      · obtain rfl : i = d.size := by omega
        go_wp2
        go_ret
        obtain ⟨e1, e2⟩ := SAME.out wr HA.out HHk.out
        exact ⟨by rw [e1]; rfl, e2, hex⟩
end Go.Proofs.YtaghfcnpnfhacaaGreat

namespace Go.Proofs.YtaghfcnpnfhacaaGreat
open Go.RowKit Go.Sort

theorem ex_grow {w : World} (q : Nat) (os : Array Obj) : Ex w.heap.size none w (grow (w.drewN q) os) :=
  ⟨rfl, rfl, rfl, by rw [size_grow]; exact Nat.le_add_right _ _, fun k hk _ => heap_grow_old (w.drewN q) os hk⟩

theorem lostAt_ex (x : Int × Int) (n : Int) (w : World) : Calls Tryz.prog 144 #[.agg #[.int .i64 x.1, .int .i64 x.2], .int .i64 n] w fun e w' => e = .returned (.int .i64 (cmpI x.1 n)) ∧ Ex w.heap.size none w w' :=
  (lostAt_any x n w).mono fun _ _ ⟨he, q, os, hw⟩ => ⟨he, by subst hw; exact ex_grow q os⟩
def LoOK (hs : List (Int × Int)) (x : Int) (i : Nat) : Prop := ∀ (t : Nat) (y : Int × Int), t < i → hs[t]? = some y → y.1 < x
def HiOK (hs : List (Int × Int)) (x : Int) (j : Nat) : Prop := ∀ (t : Nat) (y : Int × Int), j ≤ t → hs[t]? = some y → x ≤ y.1
def Rising (hs : List (Int × Int)) : Prop := ∀ (i j : Nat) (a b : Int × Int), i < j → hs[i]? = some a → hs[j]? = some b → a.1 < b.1
/-- What the search answers: the place of x, or that there is none. -/
def Found (hs : List (Int × Int)) (x : Int) (e : Ending) : Prop :=
  (∃ i y, e = .returned (.tuple #[.int .i64 i, .bool true]) ∧ 0 ≤ i ∧ hs[i.toNat]? = some (x, y)) ∨ (∃ i, e = .returned (.tuple #[.int .i64 i, .bool false]) ∧ ∀ a ∈ hs, a.1 ≠ x)

set_option maxHeartbeats 1000000 in
set_option maxRecDepth 100000 in
theorem heirSearch_any {P : Nat → Prop} {v : Value} {hs : List (Int × Int)} (x : Int) (w : World) (hv : Sl heirRep P w v hs) (hm : hs.length ≤ 1000000) (hsort : Rising hs) :
    Calls Tryz.prog 143 #[v, .int .i64 x, .func (.func 144) #[] #[]] w fun e w' => Found hs x e ∧ Ex w.heap.size none w w' := by
  have hv0 := hv
  obtain ⟨ao, cap, rfl, hx⟩ := hv
  go_enter Tryz.func143, Tryz.ntmps143
  go_wp2
  go_loopw [9, 10] (fun a b wr => ∃ i j : Nat, i ≤ j ∧ j ≤ hs.length ∧ a = .int .i64 i ∧ b = .int .i64 j ∧ LoOK hs x i ∧ HiOK hs x j ∧ Ex w.heap.size none w wr) (fun a b _ => (intOf b - intOf a).toNat)
  case atStart => exact ⟨0, hs.length, by omega, by omega, rfl, rfl, fun t y ht => absurd ht (Nat.not_lt_zero _), (fun t y ht h => by rw [List.getElem?_eq_none ht] at h; cases h), Ex.refl _ _ _⟩
  case round =>
    obtain ⟨i, j, hij, hj, rfl, rfl, hl, hr, hex⟩ := hrel
    have hsz := hex.size
    have fx := hx.keep (by decide) (fun b _ hb => hex.block b hb (by simp))
    by_cases hlt : (i : Int) < j
    · obtain ⟨h, hh⟩ : ∃ h, h = (i + j) / 2 := ⟨_, rfl⟩
      have h1 : i ≤ h := by omega
      have h2 : h < j := by omega
      have e1 : ((i : Int) + j) / 2 = (h : Int) := by omega
      obtain ⟨b, off, cs, y, rfl, _, hrr, hR, HY⟩ := fx.get h (by omega)
      have c0 : wr.cell? ⟨b, off + h * 2, none⟩ = some (.int .i64 y.1) := hrr 0 _ (by rw [show cs = _ from hR]; rfl)
      have c1 : wr.cell? ⟨b, off + h * 2 + 1, none⟩ = some (.int .i64 y.2) := hrr 1 _ (by rw [show cs = _ from hR]; rfl)
      clear hrr hR hh
      by_cases hc : y.1 < x
      · have d1 : decide (cmpI y.1 x < 0) = true := decide_eq_true (cmpI_lt.2 hc)
        have HK : Hid (LoOK hs x (h + 1)) := fun t z ht hz => by
          by_cases e : t = h
          · subst e; have := HY.out; rw [this] at hz; cases hz; exact hc
          · have := hsort t h z y (by omega) hz HY.out; omega
        go_wp2_with fail
        refine (lostAt_ex y x _).mono ?_
        rintro e w1 ⟨rfl, hex1⟩
        go_wp2_with fail
        go_roundw
        case rel => exact ⟨h + 1, j, by omega, hj, by go_num, rfl, HK.out, hr, hex.trans hex1 hsz (by simp)⟩
        case measure => simp [intOf] <;> omega
      · have d1 : decide (cmpI y.1 x < 0) = false := decide_eq_false (fun h => hc (cmpI_lt.1 h))
        have HK : Hid (HiOK hs x h) := fun t z ht hz => by
          by_cases e : t = h
          · subst e; have := HY.out; rw [this] at hz; cases hz; omega
          · have := hsort h t y z (by omega) HY.out hz; omega
        go_wp2_with fail
        refine (lostAt_ex y x _).mono ?_
        rintro e w1 ⟨rfl, hex1⟩
        go_wp2_with fail
        go_roundw
        case rel => exact ⟨i, h, by omega, by omega, rfl, rfl, hl, HK.out, hex.trans hex1 hsz (by simp)⟩
        case measure => simp [intOf] <;> omega
    · obtain rfl : i = j := by omega
      by_cases hn : i < hs.length
      · have d1 : decide ((i : Int) < hs.length) = true := decide_eq_true (by omega)
        obtain ⟨b, off, cs, y, rfl, _, hrr, hR, HY⟩ := fx.get i hn
        have c0 : wr.cell? ⟨b, off + i * 2, none⟩ = some (.int .i64 y.1) := hrr 0 _ (by rw [show cs = _ from hR]; rfl)
        have c1 : wr.cell? ⟨b, off + i * 2 + 1, none⟩ = some (.int .i64 y.2) := hrr 1 _ (by rw [show cs = _ from hR]; rfl)
        clear hrr hR
        by_cases hc : y.1 = x
        · have d2 : (cmpI y.1 x == 0) = true := by simpa using cmpI_zero.2 hc
          have HC := Lib.hid hc
          clear hc
          go_wp2_with fail
          refine (lostAt_ex y x _).mono ?_
          rintro e w1 ⟨rfl, hex1⟩
          go_wp2_with fail
          go_ret2
          exact ⟨Or.inl ⟨i, y.2, rfl, by omega, by rw [show (i : Int).toNat = i from rfl, HY.out, ← HC.out]⟩, hex.trans hex1 hsz (by simp)⟩
        · have d2 : (cmpI y.1 x == 0) = false := by simpa using fun h => hc (cmpI_zero.1 h)
          go_wp2_with fail
          refine (lostAt_ex y x _).mono ?_
          rintro e w1 ⟨rfl, hex1⟩
          go_wp2_with fail
          go_ret2
          exact ⟨Or.inr ⟨i, rfl, fun a ha => by
            obtain ⟨t, ht⟩ := List.getElem?_of_mem ha
            rcases Nat.lt_trichotomy t i with h | h | h
            · have := hl t a h ht; omega
            · subst h; rw [HY.out] at ht; cases ht; exact hc
            · have h1 := hsort i t y a h HY.out ht
              have h2 := hr i y (Nat.le_refl _) HY.out
              omega⟩, hex.trans hex1 hsz (by simp)⟩
      · have d1 : decide ((i : Int) < hs.length) = false := decide_eq_false (by omega)
        go_wp2_with fail
        go_ret2
        exact ⟨Or.inr ⟨i, rfl, fun a ha => by
          obtain ⟨t, ht⟩ := List.getElem?_of_mem ha
          have hlt := (List.getElem?_eq_some_iff.1 ht).1
          have := hl t a (by omega) ht; omega⟩, hex⟩
end Go.Proofs.YtaghfcnpnfhacaaGreat

namespace Go.Proofs.YtaghfcnpnfhacaaGreat
open Go.RowKit

/-- Where a key leads by f: met are the keys so far; at most so many steps. -/
def followF (f : Int → Option Int) (k : Int) : Nat → List Int → Int
  | 0, _ => k
  | n + 1, met => match f (met.getD (met.length - 1) 0) with
    | none => met.getD (met.length - 1) 0
    | some x => if hasI met x = true ∨ 16 < met.length then k else followF f k n (met ++ [x])
def followI (f : Int → Option Int) (k : Int) : Int := followF f k 17 [k]
theorem followF_end {f : Int → Option Int} {k : Int} {n : Nat} {met : List Int} {y : Int} (hy : met.getD (met.length - 1) 0 = y) (h : f y = none) (hn : 0 < n) : followF f k n met = y := by
  obtain ⟨m, rfl⟩ : ∃ m, n = m + 1 := ⟨n - 1, by omega⟩
  rw [followF, hy, h]
theorem followF_stop {f : Int → Option Int} {k x : Int} {n : Nat} {met : List Int} {y : Int} (hy : met.getD (met.length - 1) 0 = y) (h : f y = some x) (hx : hasI met x = true ∨ 16 < met.length) : followF f k n met = k := by
  cases n with
  | zero => rfl
  | succ m => rw [followF, hy, h]; simp only []; rw [if_pos hx]
theorem followF_step {f : Int → Option Int} {k x : Int} {n : Nat} {met : List Int} {y : Int} (hy : met.getD (met.length - 1) 0 = y) (h : f y = some x) (hx : ¬ (hasI met x = true ∨ 16 < met.length)) (hn : 0 < n) : followF f k n met = followF f k (n - 1) (met ++ [x]) := by
  obtain ⟨m, rfl⟩ : ∃ m, n = m + 1 := ⟨n - 1, by omega⟩
  rw [followF, hy, h]; simp only []; rw [if_neg hx]; rfl

end Go.Proofs.YtaghfcnpnfhacaaGreat

namespace Go.Proofs.YtaghfcnpnfhacaaGreat
open Go.RowKit Go.Sort Go.Lib

theorem strict_ext : ∀ xs ys : List Int, xs.Pairwise (· < ·) → ys.Pairwise (· < ·) → (∀ x, x ∈ xs ↔ x ∈ ys) → xs = ys
  | [], [], _, _, _ => rfl
  | [], y :: r, _, _, h => by have := (h y).2 (by simp); simp at this
  | x :: r, [], _, _, h => by have := (h x).1 (by simp); simp at this
  | x :: r, y :: s, h1, h2, h => by
    rw [List.pairwise_cons] at h1 h2
    have e : x = y := by
      have a := (h x).1 (by simp)
      have b := (h y).2 (by simp)
      simp only [List.mem_cons] at a b
      rcases a with a | a
      · exact a
      · rcases b with b | b
        · exact b.symm
        · have := h1.1 y b; have := h2.1 x a; omega
    subst e
    congr 1
    refine strict_ext r s h1.2 h2.2 fun z => ?_
    constructor
    · intro hz
      have := (h z).1 (by simp [hz])
      simp only [List.mem_cons] at this
      rcases this with e | e
      · have := h1.1 z hz; omega
      · exact e
    · intro hz
      have := (h z).2 (by simp [hz])
      simp only [List.mem_cons] at this
      rcases this with e | e
      · have := h2.1 z hz; omega
      · exact e
theorem strict_snoc {xs : List Int} {y : Int} (h : xs.Pairwise (· < ·)) (hy : ∀ x ∈ xs, x < y) : (xs ++ [y]).Pairwise (· < ·) := by
  rw [List.pairwise_append]
  exact ⟨h, by simp, fun a ha b hb => by simp at hb; subst hb; exact hy a ha⟩
theorem keysTo_strict (c : Int → Bool) (n : Nat) : (keysTo c n).Pairwise (· < ·) := by
  induction n with
  | zero => simp [keysTo]
  | succ n ih =>
    rw [keysTo]
    split
    · exact strict_snoc ih fun x hx => (mem_keysTo.1 hx).2.1
    · simpa using ih
theorem comp_strict (d : Array Int) (hs : ∀ i j, i ≤ j → j < d.size → d[i]! ≤ d[j]!) : ∀ m, m ≤ d.size → (compactUpTo d m).Pairwise (· < ·) ∧ (∀ x, x ∈ compactUpTo d m ↔ ∃ i, i < m ∧ d[i]! = x)
  | 0, _ => ⟨by simp [compactUpTo], fun x => by simp [compactUpTo]⟩
  | m + 1, hm => by
    obtain ⟨h1, h2⟩ := comp_strict d hs m (by omega)
    rw [compactUpTo_succ]
    cases e : keeps d m with
    | true =>
      rw [if_pos rfl]
      refine ⟨strict_snoc h1 fun x hx => ?_, fun x => ?_⟩
      · obtain ⟨i, hi, rfl⟩ := (h2 x).1 hx
        have a := hs i (m - 1) (by omega) (by omega)
        have b := hs (m - 1) m (by omega) (by omega)
        have c : d[m]! ≠ d[m - 1]! := by
          unfold keeps at e
          have : ¬ m = 0 := by omega
          simpa [this] using e
        omega
      · rw [List.mem_append, h2]
        constructor
        · rintro (⟨i, hi, h⟩ | h)
          · exact ⟨i, by omega, h⟩
          · simp at h; exact ⟨m, by omega, h.symm⟩
        · rintro ⟨i, hi, h⟩
          by_cases c : i = m
          · subst c; right; simp [h]
          · exact Or.inl ⟨i, by omega, h⟩
    | false =>
      rw [if_neg (by simp), List.append_nil]
      refine ⟨h1, fun x => ?_⟩
      rw [h2]
      have h0 : m ≠ 0 := by intro h0; subst h0; simp [keeps] at e
      have c : d[m]! = d[m - 1]! := by
        unfold keeps at e
        simpa [h0] using e
      constructor
      · rintro ⟨i, hi, h⟩; exact ⟨i, by omega, h⟩
      · rintro ⟨i, hi, h⟩
        by_cases c' : i = m
        · subst c'; exact ⟨i - 1, by omega, by rw [← c]; exact h⟩
        · exact ⟨i, by omega, h⟩

/-- The numbers of a list, each once, ascending. -/
def uniq (l : List Int) : List Int := Lib.compact (l.mergeSort fun x y => decide (x ≤ y))
theorem compact_spec (s : List Int) (hp : s.Pairwise (fun x y => decide (x ≤ y) = true)) : (Lib.compact s).Pairwise (· < ·) ∧ ∀ x, x ∈ Lib.compact s ↔ x ∈ s := by
  have hs : ∀ i j, i ≤ j → j < s.toArray.size → s.toArray[i]! ≤ s.toArray[j]! := fun i j hij hj => by
    have hj' : j < s.length := by simpa using hj
    rw [getElem!_pos s.toArray i (by simp; omega), getElem!_pos s.toArray j hj]
    simp only [List.getElem_toArray]
    by_cases c : i = j
    · subst c; exact Int.le_refl _
    · have := List.pairwise_iff_getElem.1 hp i j (by omega) hj' (by omega)
      simpa using this
  obtain ⟨h1, h2⟩ := comp_strict s.toArray hs s.length (by simp)
  refine ⟨h1, fun x => (h2 x).trans ?_⟩
  rw [List.mem_iff_getElem]
  constructor
  · rintro ⟨i, hi, h⟩
    refine ⟨i, hi, ?_⟩
    rw [getElem!_pos s.toArray i (by simpa using hi)] at h
    simpa using h
  · rintro ⟨i, hi, h⟩
    refine ⟨i, hi, ?_⟩
    rw [getElem!_pos s.toArray i (by simpa using hi)]
    simpa using h
theorem uniq_spec (l : List Int) : (uniq l).Pairwise (· < ·) ∧ ∀ x, x ∈ uniq l ↔ x ∈ l := by
  have hp : (l.mergeSort fun x y => decide (x ≤ y)).Pairwise (fun x y => decide (x ≤ y) = true) := List.pairwise_mergeSort (fun a b c h1 h2 => by simp at *; omega) (fun a b => by simp; omega) l
  obtain ⟨h1, h2⟩ := compact_spec _ hp
  exact ⟨h1, fun x => (h2 x).trans List.mem_mergeSort⟩
/-- Of keys the numbers, each once, ascending, are what the reference's Join makes of them. -/
theorem uniq_keys (l : List Int) (h : ∀ x ∈ l, 0 ≤ x ∧ x < 64) : uniq l = joinI l [] := by
  obtain ⟨h1, h2⟩ := uniq_spec l
  refine strict_ext _ _ h1 (keysTo_strict _ _) fun x => ?_
  unfold joinI
  rw [h2, mem_keysTo]
  simp only [hasI_nil, Bool.or_false, hasI_iff]
  exact ⟨fun hx => ⟨(h x hx).1, (h x hx).2, hx⟩, fun hx => hx.2.2⟩

theorem ex_putRow {α : Type} [Inhabited α] (enc : α → Value) (w : World) (g off n : Nat) (d : Array α) (os : Array Obj) : Ex w.heap.size (some g) w (grow (putRow enc (Go.Sort.ahead w n) g off d) os) := by
  refine ⟨rfl, rfl, rfl, ?_, fun i hi hne => ?_⟩
  · rw [size_grow]
    unfold putRow mapBlock Go.Sort.ahead
    simp
  · rw [heap_grow_old _ _ (by unfold putRow mapBlock Go.Sort.ahead; simpa using hi)]
    unfold putRow mapBlock Go.Sort.ahead
    simp only [Array.getElem?_modify]
    rw [if_neg (by intro e; exact hne (by rw [e]))]
theorem holds_ints {w : World} {g off : Nat} {xs : List Int} (h : Holds (Value.int .i64) w g off xs.toArray) : IntsAt w (some ⟨g, off, none⟩) xs := by
  intro j hj
  refine ⟨g, off, rfl, fun i hi => ?_⟩
  rw [(h i (by simpa using hi)).1, getElem!_pos xs.toArray i (by simpa using hi)]
  simp [List.getD, hi]
theorem own_holds {w : World} {base g o cap n : Nat} {xs : List Int} (h : w.ownsRow base 3 1 (.slice (some ⟨g, o, none⟩) n cap) n (xs.map (Value.int .i64))) : Holds (Value.int .i64) w g 0 xs.toArray := by
  obtain ⟨_, _, _, _, h1, h2⟩ := own_there h
  intro j hj
  have hj' : j < xs.length := by simpa using hj
  rw [Nat.zero_add]
  refine ⟨h1 j _ ?_, h2 j⟩
  rw [getElem!_pos xs.toArray j hj]
  simp [hj']

set_option maxHeartbeats 400000 in
/-- slices.Sort of an owned slice of ints. -/
theorem sortInts_any (ro : Option Addr) (rc n base : Nat) (xs : List Int) (w : World) (hown : OwnI w base ro rc xs) (hn : xs.length = n) (hm : xs.length ≤ 1000000000000) :
    Calls Tryz.prog 147 #[.slice ro n rc] w fun e w' => e = .returned (.tuple #[]) ∧ Ex base none w w' ∧
      (xs = [] ∨ ∃ g, ro = some ⟨g, 0, none⟩ ∧ base ≤ g ∧ g < w'.heap.size ∧ xs.length ≤ rc ∧ Holds (Value.int .i64) w' g 0 (xs.mergeSort fun x y => decide (x ≤ y)).toArray) := by
  subst hn
  rcases hown.2 with ⟨h1, h2⟩ | ⟨g, cap, cur, hv, hg, hh, _⟩
  · have hx : xs = [] := List.eq_nil_of_length_eq_zero h2
    subst hx
    refine (Tryz.slices_Sort_int_none ro rc w).mono ?_
    rintro e w' ⟨rfl, rfl⟩
    exact ⟨rfl, Ex.refl _ _ _, Or.inl rfl⟩
  · cases hv
    have hc := hown.cap
    have hb := (Array.getElem?_eq_some_iff.1 hh).1
    have hH := own_holds hown
    refine (Tryz.slices_Sort_int g 0 rc xs w hH hb (by omega)).mono ?_
    rintro e w' ⟨rfl, k, os, rfl⟩
    have hex := ex_putRow (Value.int .i64) w g 0 k (xs.mergeSort fun x y => decide (x ≤ y)).toArray os
    refine ⟨rfl, ((hex.mono (show base ≤ w.heap.size by omega)).above hg), Or.inr ⟨g, rfl, hg, Nat.lt_of_lt_of_le hb hex.size, hc, ?_⟩⟩
    exact holds_grow (Value.int .i64) _ os g 0 _ (by unfold putRow mapBlock Go.Sort.ahead; simpa using hb) (holds_putRow (Value.int .i64) _ g 0 xs.toArray _ (holds_ahead (Value.int .i64) w k g 0 _ hH) (by simp))

set_option maxHeartbeats 400000 in
/-- slices.Compact behind it. -/
theorem compactInts_any (ro : Option Addr) (rc n base : Nat) (xs : List Int) (w : World) (hn : xs.length = n) (hm : xs.length ≤ 1000000000000)
    (h : xs = [] ∨ ∃ g, ro = some ⟨g, 0, none⟩ ∧ base ≤ g ∧ g < w.heap.size ∧ xs.length ≤ rc ∧ Holds (Value.int .i64) w g 0 (xs.mergeSort fun x y => decide (x ≤ y)).toArray) (hb : base ≤ w.heap.size) :
    Calls Tryz.prog 124 #[.slice ro n rc] w fun e w' => e = .returned (.slice ro (uniq xs).length rc) ∧ Ex base none w w' ∧ IntsAt w' ro (uniq xs) := by
  subst hn
  rcases h with rfl | ⟨g, rfl, hg, hlt, hc, hH⟩
  · refine (Tryz.slices_Compact_int_empty ro rc w).mono ?_
    rintro e w' ⟨rfl, rfl⟩
    have : uniq [] = [] := by simp [uniq, Lib.compact, Lib.compactUpTo]
    exact ⟨by rw [this]; rfl, Ex.refl _ _ _, by rw [this]; exact IntsAt.nil _ _⟩
  · have hl : (xs.mergeSort fun x y => decide (x ≤ y)).length = xs.length := by simp
    have h := Tryz.slices_Compact_int g 0 rc (xs.mergeSort fun x y => decide (x ≤ y)) w hH (by omega) (by omega)
    rw [hl] at h
    refine h.mono ?_
    rintro e w' ⟨rfl, q, rfl⟩
    have hex := ex_putRow (Value.int .i64) w g 0 q (Lib.compact (xs.mergeSort fun x y => decide (x ≤ y)) ++ List.replicate (xs.length - (Lib.compact (xs.mergeSort fun x y => decide (x ≤ y))).length) 0).toArray #[]
    rw [grow_empty] at hex
    have hle : (Lib.compact (xs.mergeSort fun x y => decide (x ≤ y))).length ≤ xs.length := by
      rw [← hl]
      unfold Lib.compact Lib.compactUpTo
      simp only [List.length_map]
      exact Nat.le_trans (List.length_filter_le _ _) (by simp)
    refine ⟨rfl, (hex.mono hb).above hg, ?_⟩
    have hH2 := holds_putRow (Value.int .i64) (Go.Sort.ahead w q) g 0 (xs.mergeSort fun x y => decide (x ≤ y)).toArray (Lib.compact (xs.mergeSort fun x y => decide (x ≤ y)) ++ List.replicate (xs.length - (Lib.compact (xs.mergeSort fun x y => decide (x ≤ y))).length) 0).toArray (holds_ahead (Value.int .i64) w q g 0 _ hH) (by simp; omega)
    have := (holds_ints hH2).take (uniq xs).length
    have e : (Lib.compact (xs.mergeSort fun x y => decide (x ≤ y)) ++ List.replicate (xs.length - (Lib.compact (xs.mergeSort fun x y => decide (x ≤ y))).length) (0 : Int)).take (uniq xs).length = uniq xs := by
      unfold uniq
      rw [List.take_left]
    rwa [e] at this
end Go.Proofs.YtaghfcnpnfhacaaGreat

namespace Go.Proofs.YtaghfcnpnfhacaaGreat
open Go.RowKit

/-- What the keys among the first k numbers lead to. -/
def replTo (f : Int → Option Int) (l : List Int) : Nat → List Int
  | 0 => []
  | k + 1 => if 0 ≤ l.getD k 0 ∧ l.getD k 0 < 64 then replTo f l k ++ [followI f (l.getD k 0)] else replTo f l k
theorem replTo_le (f : Int → Option Int) (l : List Int) (k : Nat) : (replTo f l k).length ≤ k := by
  induction k with
  | zero => simp [replTo]
  | succ k ih =>
    rw [replTo]; split
    · rw [List.length_append]; simp; omega
    · omega
theorem replTo_yes {f : Int → Option Int} {l : List Int} {k : Nat} {y : Int} (hy : l.getD k 0 = y) (h0 : 0 ≤ y) (h1 : y < 64) : replTo f l (k + 1) = replTo f l k ++ [followI f y] := by rw [replTo, hy, if_pos ⟨h0, h1⟩]
theorem replTo_no {f : Int → Option Int} {l : List Int} {k : Nat} {y : Int} (hy : l.getD k 0 = y) (h : ¬ (0 ≤ y ∧ y < 64)) : replTo f l (k + 1) = replTo f l k := by rw [replTo, hy, if_neg h]
def replI (f : Int → Option Int) (l : List Int) : List Int := joinI (replTo f l l.length) []

end Go.Proofs.YtaghfcnpnfhacaaGreat

namespace Go.Proofs.YtaghfcnpnfhacaaGreat
open Go.RowKit

theorem same_take {xs ys : List Int} {k : Nat} (h : xs.take k = ys.take k) (h1 : k < xs.length) (h2 : k < ys.length) (he : xs.getD k 0 = ys.getD k 0) : xs.take (k + 1) = ys.take (k + 1) := by
  rw [take_snoc xs k h1, take_snoc ys k h2, h, he]

set_option maxHeartbeats 400000 in
theorem sameInts_any (v1 v2 : Value) (xs ys : List Int) (w : World) (hv1 : Ints w v1 xs) (hv2 : Ints w v2 ys) (hm : xs.length ≤ 9223372036854775807) :
    Calls Tryz.prog 19 #[v1, v2] w fun e w' => e = .returned (.bool (decide (xs = ys))) ∧ Ex w.heap.size none w w' := by
  obtain ⟨ao, cap, rfl, hx⟩ := hv1
  obtain ⟨bo, cbp, rfl, hy⟩ := hv2
  by_cases hl : xs.length = ys.length
  · have hl1 : ((xs.length : Int) != ys.length) = false := by simp [hl]
    have HL := Lib.hid hl
    go_enter Tryz.func19, Tryz.ntmps19
    clear hl
    go_wp2
    clear hl1
    go_loopw [5] (fun i wr => ∃ k : Nat, k ≤ xs.length ∧ i = .int .i64 k ∧ xs.take k = ys.take k ∧ ∃ n, w.drewN n = wr) (fun i _ => xs.length - (intOf i).toNat)
    case atStart => exact ⟨0, Nat.zero_le _, rfl, by simp, 0, rfl⟩
    case round =>
      obtain ⟨k, hk, rfl, ht, n, rfl⟩ := hrel
      have HT := Lib.hid ht
      clear ht
      by_cases hlt : k < xs.length
      · have hlt2 : k < ys.length := by have := HL.out; omega
        obtain ⟨b, off, y, rfl, hck, HY⟩ := hx.get k hlt
        obtain ⟨b', off', z, rfl, hcz, HZ⟩ := hy.get k hlt2
        by_cases he : y = z
        · have hb : (y != z) = false := by simpa using he
          have HR := Lib.hid (same_take HT.out hlt hlt2 (by rw [HY.out, HZ.out, he]))
          clear he
          go_wp2
          go_quiet (fail)
          go_wp2
          go_roundw
          case rel => exact ⟨k + 1, by omega, by go_num, HR.out, _, rfl⟩
          case measure => simp [intOf]; omega
        · have hb : (y != z) = true := by simpa using he
          have HR : Hid (xs ≠ ys) := fun h => he (by rw [← HY.out, ← HZ.out, h])
          clear he
          go_wp2
          go_quiet (fail)
          go_wp2
          go_ret
          exact ⟨ret_bool (by simp [HR.out]), by repeat (first | exact Ex.refl _ _ _ | refine Ex.drewN ?_)⟩
      · have HR : Hid (xs = ys) := by
          have h := HT.out
          have := HL.out
          rwa [List.take_of_length_le (by omega), List.take_of_length_le (by omega)] at h
        go_wp2
        go_ret
        exact ⟨ret_bool (by simp [HR.out]), by repeat (first | exact Ex.refl _ _ _ | refine Ex.drewN ?_)⟩
  · have hl1 : ((xs.length : Int) != ys.length) = true := by simp; omega
    have HR : Hid (xs ≠ ys) := fun h => hl (by rw [h])
    clear hl
    go_enter Tryz.func19, Tryz.ntmps19
    go_wp2
    go_ret
    exact ⟨ret_bool (by simp [HR.out]), Ex.refl _ _ _⟩
end Go.Proofs.YtaghfcnpnfhacaaGreat

namespace Go.Proofs.YtaghfcnpnfhacaaGreat
open Go.RowKit

theorem tmod_neg {n m : Int} (hm : 1 ≤ m) (h : n.tmod m < 0) : n.tmod m + m = modI n m := by
  rw [modI_pos hm, Int.tmod_eq_emod]
  rw [Int.tmod_eq_emod] at h
  split at h <;> rename_i h' <;> simp only [h', ↓reduceIte] at h ⊢
  · have := Int.emod_nonneg n (show m ≠ 0 by omega); omega
  · have : (m.natAbs : Int) = m := by omega
    omega
theorem tmod_pos {n m : Int} (hm : 1 ≤ m) (h : ¬ n.tmod m < 0) : n.tmod m = modI n m := by
  rw [modI_pos hm, Int.tmod_eq_emod]
  rw [Int.tmod_eq_emod] at h
  have := Int.emod_lt_of_pos n (show 0 < m by omega)
  split at h <;> rename_i h' <;> simp only [h', ↓reduceIte] at h ⊢
  · simp
  · have : (m.natAbs : Int) = m := by omega
    omega
theorem tmod_bd {n m : Int} (hm : 1 ≤ m) : -m ≤ n.tmod m ∧ n.tmod m < m := by
  by_cases h : n.tmod m < 0
  · have := tmod_neg hm h; have := modI_bd (n := n) hm; omega
  · have := tmod_pos hm h; have := modI_bd (n := n) hm; omega

set_option maxHeartbeats 400000 in
theorem mod_any (n m : Int) (w : World) (hm : m ≤ 4611686018427387904) :
    Calls Tryz.prog 118 #[.int .i64 n, .int .i64 m] w fun e w' => e = .returned (.int .i64 (modI n m)) ∧ w = w' := by
  by_cases h1 : m < 1
  · go_enter Tryz.func118, Tryz.ntmps118
    go_wp2
    go_ret
    exact ⟨ret_int (by unfold modI; rw [if_pos h1]), rfl⟩
  · obtain ⟨b1, b2⟩ := tmod_bd (n := n) (show 1 ≤ m by omega)
    by_cases h2 : n.tmod m < 0
    · have H := Lib.hid (tmod_neg (show 1 ≤ m by omega) h2)
      go_enter Tryz.func118, Tryz.ntmps118
      go_wp2
      go_ret
      exact ⟨ret_int H.out, rfl⟩
    · have H := Lib.hid (tmod_pos (show 1 ≤ m by omega) h2)
      go_enter Tryz.func118, Tryz.ntmps118
      go_wp2
      go_ret
      exact ⟨ret_int H.out, rfl⟩

end Go.Proofs.YtaghfcnpnfhacaaGreat

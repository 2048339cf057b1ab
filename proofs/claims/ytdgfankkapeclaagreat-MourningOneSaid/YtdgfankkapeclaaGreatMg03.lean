/- slices.symMergeCmpFunc at trustflow/api.Heir, where the second run has one element and the first more, over whatever program that bears it: a contract, no statement of the seat. | slices.swapRangeCmpFunc at trustflow/api.Heir, over whatever program that bears it: a contract, no statement of the seat. | slices.rotateCmpFunc at trustflow/api.Heir, over whatever program that bears it: a contract, no statement of the seat. | slices.symMergeCmpFunc at trustflow/api.Heir, over whatever program that bears it: definitions, no statement of the seat. | Sorted and compacted numbers: plain laws; the library's Sort and Compact at ints, met in these texts' words. No statement of the seat. | ref35.Same: a contract, no statement of the seat. -/
import Derived.Test.YtdgfankkapeclaaGreatMg02
import Derived.Test.YtdgfankkapeclaaGreatShelf
import Derived.Test.YtdgfankkapeclaaGreatRowKG
import Derived.Test.YtdgfankkapeclaaGreatMg00
import Derived.BigQuiet
namespace Go.Proofs.YtdgfankkapeclaaGreat
open Go.RowKit Go.Sort
variable {P : Program} {α : Type} [Inhabited α]

set_option maxHeartbeats 8000000 in
set_option maxRecDepth 1000000 in
theorem symEndHeir {k : Nat} (L : LayHeir P k) (enc : α → List Value) (hk : ∀ x, (enc x).length = k) (h1 : ∀ x, ∀ v ∈ enc x, v.oneCell' = true) (cf : α → α → Int) (hS : SWO (ltOf cf)) (f : Nat) (cb : Array Value)
    (ef : ∀ args w, (callFunc f args).run P w = .ok (.enter f args) w) (hcmp : CmpAt P f cb enc cf) (g off cap a m b s : Nat) (A M B : Int) (hA : (a : Int) = A) (hM : (m : Int) = M) (hB : (b : Int) = B) (d : Array α) (w : World) (hH : HoldsK enc k w g off d) (hg : g < w.heap.size) (ham : a < m) (hmb : m < b) (hb : b ≤ d.size) (hsz : d.size < 4611686018427387904) (hs : d.size = s)
    (r1 : SortedIn (ltOf cf) a m d) (r2 : SortedIn (ltOf cf) m b d) (hmore : m ≠ a + 1) (hone : b = m + 1) :
    Calls P 269 #[.slice (some ⟨g, off, none⟩) s cap, .int .i64 A, .int .i64 M, .int .i64 B, .func (.func f) #[] cb] w fun e w' =>
      e = .returned (.tuple #[]) ∧ ∃ d', HoldsK enc k w' g off d' ∧ SM (ltOf cf) a b d d' ∧ SortedIn (ltOf cf) a b d' ∧ Ex w.heap.size (some g) w w' := by
  subst hA hM hB hs
  have mixed := L.mixed; have t0 := L.t0; have a0 := L.a0; have z0 := L.z0; have v0 := L.v0; have t1 := L.t1; have a1 := L.a1; have z1 := L.z1; have v1 := L.v1; have t2 := L.t2; have a2 := L.a2; have z2 := L.z2; have v2 := L.v2; have t3 := L.t3; have a3 := L.a3; have z3 := L.z3; have v3 := L.v3; have t4 := L.t4; have a4 := L.a4; have z4 := L.z4; have v4 := L.v4; have t5 := L.t5; have a5 := L.a5; have z5 := L.z5; have v5 := L.v5; have aE := L.aE; have zE := L.zE
  have u4 := run_underlying L.t4
  have HK := Lib.hid hk
  have H1 := Lib.hid h1
  have HC := Lib.hid hcmp
  have HHw := Lib.hid hH
  have HS := Lib.hid hS
  have HR1 := Lib.hid r1
  have HR2 := Lib.hid r2
  clear hk h1 hcmp hH hS r1 r2
  have hd : (((m : Int) - a) == 1) = false := by simp; omega
  have hd2 : (((b : Int) - m) == 1) = true := by simp; omega
  have HO := Lib.hid hone
  clear hone hmore
  have hmb' : b ≤ m + 1 := by have := HO.out; omega
  go_enter L.fM, Tryz.ntmps269
  go_wp2
  go_loopw [14, 15] (fun vi vj wr => ∃ (i j : Nat), vi = .int .i64 i ∧ vj = .int .i64 j ∧ a ≤ i ∧ i ≤ j ∧ j ≤ m ∧ HoldsK enc k wr g off d ∧ EndLo (ltOf cf) d m a i ∧ EndHi (ltOf cf) d m j ∧ Ex w.heap.size (some g) w wr) (fun vi vj _ => (intOf vj - intOf vi).toNat)
  case atStart => exact ⟨a, m, rfl, rfl, Nat.le_refl _, by omega, Nat.le_refl _, HHw.out, fun h h1 h2 => by omega, fun h h1 h2 => by omega, Ex.refl _ _ _⟩
  case round =>
    obtain ⟨i, j, rfl, rfl, hmi, hij, hjb, hHk, hlo, hhi, hex⟩ := hrel
    have HHk := Lib.hid hHk
    have HLo := Lib.hid hlo
    have HHi := Lib.hid hhi
    clear hHk hlo hhi
    have hsz' := hex.size
    by_cases hlt : (i : Int) < j
    · obtain ⟨h, hh⟩ : ∃ h, h = (i + j) / 2 := ⟨_, rfl⟩
      have h1 : i ≤ h := by omega
      have h2 : h < j := by omega
      have e1 : ((i : Int) + j) / 2 = (h : Int) := by omega
      clear hh
      have hHc : ∀ n' os', HoldsK enc k (grow (wr.drewN n') os') g off d := fun n' os' => holdsK_grow enc k _ os' g off d (by show g < wr.heap.size; omega) (show HoldsK enc k (wr.drewN n') g off d from HHk.out)
      obtain ⟨vm, hvm⟩ : ∃ v, d[m]! = v := ⟨_, rfl⟩
      obtain ⟨vh, hvh⟩ : ∃ v, d[h]! = v := ⟨_, rfl⟩
      have l1 : ∀ n' os', Sem.run P (loadCellsFrom ⟨g, off + m * k, none⟩ 0 k #[]) (grow (wr.drewN n') os') = .ok (enc vm).toArray (grow (wr.drewN n') os') := fun n' os' => by
        rw [← hvm]; exact run_loadCellsFrom_list P _ _ _ k (HK.out _) (HoldsK.cells (hHc n' os') HK.out (by omega))
      have l2 : ∀ n' os', Sem.run P (loadCellsFrom ⟨g, off + h * k, none⟩ 0 k #[]) (grow (wr.drewN n') os') = .ok (enc vh).toArray (grow (wr.drewN n') os') := fun n' os' => by
        rw [← hvh]; exact run_loadCellsFrom_list P _ _ _ k (HK.out _) (HoldsK.cells (hHc n' os') HK.out (by omega))
      have hcg : ∀ n' os', Calls P f (#[.agg (enc vm).toArray, .agg (enc vh).toArray] ++ cb) (grow (wr.drewN n') os') fun e w' => e = .returned (.int .i64 (cf vm vh)) ∧ ∃ q os'', w' = grow ((grow (wr.drewN n') os').drewN q) os'' := fun n' os' => HC.out _ _ _
      have HV : Hid (d[m]! = vm ∧ d[h]! = vh) := ⟨hvm, hvh⟩
      clear hHc hvm hvh
      have b1 : (m : Int) < d.size := by omega
      have b2 : (h : Int) < d.size := by omega
      by_cases hlv : cf vm vh < 0
      · have hl' : decide (cf vm vh < 0) = true := decide_eq_true hlv
        go_wp2_with fail
        go_quiet_grown (first | (go_at_fn f; refine Calls.grown_of (hcg _ _)))
        go_wp2
        go_roundw
        case rel => exact ⟨i, h, rfl, rfl, hmi, h1, by omega, holdsK_grow enc k _ _ g off d (by show g < wr.heap.size; omega) (show HoldsK enc k (wr.drewN nq) g off d from HHk.out), HLo.out, EndHi.step HS.out HR1.out (by omega) (by rw [HV.out.1, HV.out.2]; exact decide_eq_true hlv), hex.trans (ex_grow' nq osq none (Nat.le_refl _)) hsz' (by simp)⟩
        case measure => simp [intOf]; omega
      · have hl' : decide (cf vm vh < 0) = false := decide_eq_false hlv
        go_wp2_with fail
        go_quiet_grown (first | (go_at_fn f; refine Calls.grown_of (hcg _ _)))
        go_wp2
        go_roundw
        case rel => exact ⟨h + 1, j, by go_num, rfl, by omega, by omega, hjb, holdsK_grow enc k _ _ g off d (by show g < wr.heap.size; omega) (show HoldsK enc k (wr.drewN nq) g off d from HHk.out), EndLo.step HS.out HR1.out (by omega) (by rw [HV.out.1, HV.out.2]; exact decide_eq_false (fun hx => by omega)), HHi.out, hex.trans (ex_grow' nq osq none (Nat.le_refl _)) hsz' (by simp)⟩
        case measure => simp [intOf]; omega
    · obtain rfl : i = j := by omega
      obtain ⟨w0, rfl⟩ : ∃ w0 : World, w0 = wr := ⟨_, rfl⟩
      go_wp2
      go_loopw [17] (fun vk wr => ∃ (t : Nat) (dk : Array α), vk = .int .i64 t ∧ i ≤ t ∧ t ≤ m ∧ HoldsK enc k wr g off dk ∧ By (rotIx t m (m + 1)) d dk ∧ Ex w.heap.size (some g) w wr) (fun vk _ => (intOf vk).toNat - i)
      case atStart => exact ⟨m, d, rfl, by omega, Nat.le_refl _, HHk.out, By.refl _ _ (fun t _ => rotIx_id (Nat.le_refl _) (by omega) (Or.inl rfl)), hex⟩
      case round =>
        clear HHk hex hsz'
        obtain ⟨t, dk, rfl, hat, hti, hHk, hby, hex⟩ := hrel
        have HHk := Lib.hid hHk
        have HBy := Lib.hid hby
        clear hHk hby
        have hsz' := hex.size
        by_cases hlt2 : (i : Int) < t
        · obtain ⟨t, rfl⟩ : ∃ t', t = t' + 1 := ⟨t - 1, by omega⟩
          have hlt3 : (i : Int) < (t : Int) + 1 := by omega
          have e0 : ((t : Int) + 1).toNat = t + 1 := by omega
          have p0 : (0 : Int) ≤ (t : Int) + 1 := by omega
          have q0 : (t : Int) + 1 < d.size := by omega
          have q1 : (t : Int) < d.size := by omega
          have hwp : IntKind.i64.wrap (t : Int) = (t : Int) := by rw [IntKind.wrap_i64]; omega
          have hHd : HoldsK enc k wr.drew g off dk := HHk.out
          have hds : dk.size = d.size := HBy.out.1
          obtain ⟨vx, hvx⟩ : ∃ v, dk[t + 1]! = v := ⟨_, rfl⟩
          obtain ⟨vy, hvy⟩ : ∃ v, dk[t]! = v := ⟨_, rfl⟩
          have bnd : ∀ x, x < dk.size → x * k + k ≤ dk.size * k := fun x hx => by
            have := Nat.mul_le_mul_right k (show x + 1 ≤ dk.size from hx); rwa [Nat.add_mul, Nat.one_mul] at this
          have lx : Sem.run P (loadCellsFrom ⟨g, off + (t + 1) * k, none⟩ 0 k #[]) wr.drew = .ok (enc vx).toArray wr.drew := by rw [← hvx]; exact run_loadCellsFrom_list P _ _ _ k (HK.out _) (HoldsK.cells hHd HK.out (by omega))
          have ly : Sem.run P (loadCellsFrom ⟨g, off + (t) * k, none⟩ 0 k #[]) wr.drew = .ok (enc vy).toArray wr.drew := by rw [← hvy]; exact run_loadCellsFrom_list P _ _ _ k (HK.out _) (HoldsK.cells hHd HK.out (by omega))
          have s1 : Sem.run P (storeCells ⟨g, off + (t + 1) * k, none⟩ (enc vy) 0) wr.drew = .ok () (wr.drew.setCells g (off + (t + 1) * k) (enc vy)) := stores_of_holds P hHd ((t + 1) * k) _ (by rw [HK.out, size_flatK]; exact bnd (t + 1) (by omega)) (H1.out _)
          have s2 : Sem.run P (storeCells ⟨g, off + (t) * k, none⟩ (enc vx) 0) (wr.drew.setCells g (off + (t + 1) * k) (enc vy)) = .ok () ((wr.drew.setCells g (off + (t + 1) * k) (enc vy)).setCells g (off + (t) * k) (enc vx)) :=
            stores_of_holds P (holds_setCells_c hHd ((t + 1) * k) _ (by rw [HK.out, size_flatK]; exact bnd (t + 1) (by omega))) ((t) * k) _ (by rw [HK.out, size_setMany, size_flatK]; exact bnd (t) (by omega)) (H1.out _)
          have hsX : (enc vx).length = k := HK.out _
          have hsY : (enc vy).length = k := HK.out _
          clear bnd hHd
          obtain ⟨cX, hcX⟩ : ∃ c, c = enc vx := ⟨_, rfl⟩
          obtain ⟨cY, hcY⟩ : ∃ c, c = enc vy := ⟨_, rfl⟩
          rw [← hcX] at lx hsX
          rw [← hcY] at ly hsY
          rw [← hcY] at s1
          rw [← hcX, ← hcY] at s2
          have CC : Hid (cX = enc vx ∧ cY = enc vy ∧ dk[t + 1]! = vx ∧ dk[t]! = vy) := ⟨hcX, hcY, hvx, hvy⟩
          clear hcX hcY hvx hvy hds
          go_wp2_with fail
          go_big_region_o
          all_goals go_wp2
          go_roundw
          case rel =>
            have hds : dk.size = d.size := HBy.out.1
            obtain ⟨k1, k2⟩ := swapWorldK enc k HK.out wr g off dk (t + 1) t HHk.out (by omega) (by omega) (by omega)
            refine ⟨t, swp dk (t + 1) t, by first | rfl | go_num | (congr 1; omega), by omega, by omega, ?_, HBy.out.down hti (by omega), ?_⟩
            · rw [CC.out.1, CC.out.2.1, ← CC.out.2.2.1, ← CC.out.2.2.2]; exact k1
            · rw [CC.out.1, CC.out.2.1, ← CC.out.2.2.1, ← CC.out.2.2.2]; exact hex.trans k2 hsz' (fun q e _ => by cases e; rfl)
          case measure => simp [intOf] <;> omega
        · go_wp2
          refine bodyPost_ret (results_none rfl _ _ _) rfl ?_
          have h0 := HBy.out
          rw [show t = i by omega] at h0
          obtain ⟨x1, x2⟩ := one_behind HS.out h0 hmi (by omega) (by omega) HR1.out HLo.out HHi.out
          rw [← HO.out] at x1 x2
          exact ⟨rfl, dk, HHk.out, x1, x2, hex⟩
end Go.Proofs.YtdgfankkapeclaaGreat

namespace Go.Proofs.YtdgfankkapeclaaGreat
open Go.RowKit Go.Sort
variable {P : Program} {α : Type} [Inhabited α]

set_option maxHeartbeats 4000000 in
set_option maxRecDepth 1000000 in
theorem swapHeir_any {k : Nat} (L : LayHeir P k) (enc : α → List Value) (hk : ∀ x, (enc x).length = k) (h1 : ∀ x, ∀ v ∈ enc x, v.oneCell' = true) (g off cap x y n s : Nat) (X Y N : Int) (hX : (x : Int) = X) (hY : (y : Int) = Y) (hN : (n : Int) = N) (F : Value) (d : Array α) (w : World) (hH : HoldsK enc k w g off d) (hg : g < w.heap.size) (hxy : x + n ≤ y) (hy : y + n ≤ d.size) (hsz : d.size < 4611686018427387904) (hs : d.size = s) :
    Calls P 317 #[.slice (some ⟨g, off, none⟩) s cap, .int .i64 X, .int .i64 Y, .int .i64 N, F] w fun e w' =>
      e = .returned (.tuple #[]) ∧ ∃ d', HoldsK enc k w' g off d' ∧ By (swIx x y n) d d' ∧ Ex w.heap.size (some g) w w' := by
  subst hX hY hN hs
  have mixed := L.mixed; have t0 := L.t0; have a0 := L.a0; have z0 := L.z0; have v0 := L.v0; have t1 := L.t1; have a1 := L.a1; have z1 := L.z1; have v1 := L.v1; have t2 := L.t2; have a2 := L.a2; have z2 := L.z2; have v2 := L.v2; have t3 := L.t3; have a3 := L.a3; have z3 := L.z3; have v3 := L.v3; have t4 := L.t4; have a4 := L.a4; have z4 := L.z4; have v4 := L.v4; have t5 := L.t5; have a5 := L.a5; have z5 := L.z5; have v5 := L.v5; have aE := L.aE; have zE := L.zE
  have u4 := run_underlying L.t4
  have HK : Hid (∀ x, (enc x).length = k) := hk
  have H1 : Hid (∀ x, ∀ v ∈ enc x, v.oneCell' = true) := h1
  clear hk h1
  go_enter L.fS, Tryz.ntmps317
  go_wp2
  go_loopw [10] (fun vi wr => ∃ (i : Nat) (dk : Array α), vi = .int .i64 i ∧ i ≤ n ∧ HoldsK enc k wr g off dk ∧ By (swIx x y i) d dk ∧ Ex w.heap.size (some g) w wr) (fun vi _ => n - (intOf vi).toNat)
  case atStart => exact ⟨0, d, rfl, Nat.zero_le _, hH, By.swap0 _ _ _, Ex.refl _ _ _⟩
  case round =>
    obtain ⟨i, dk, rfl, hi, hHk, hby, hex⟩ := hrel
    have hdk := hby.1
    have hsz' := hex.size
    by_cases hlt : i < n
    · have hHd : HoldsK enc k wr.drew g off dk := hHk
      obtain ⟨vx, hvx⟩ : ∃ v, dk[x + i]! = v := ⟨_, rfl⟩
      obtain ⟨vy, hvy⟩ : ∃ v, dk[y + i]! = v := ⟨_, rfl⟩
      have bnd : ∀ x, x < dk.size → x * k + k ≤ dk.size * k := fun x hx => by
        have := Nat.mul_le_mul_right k (show x + 1 ≤ dk.size from hx); rwa [Nat.add_mul, Nat.one_mul] at this
      have e0 : ((x : Int) + i).toNat = x + i := by omega
      have e1 : ((y : Int) + i).toNat = y + i := by omega
      have p0 : (0 : Int) ≤ (x : Int) + i := by omega
      have p1 : (0 : Int) ≤ (y : Int) + i := by omega
      have q0 : (x : Int) + i < d.size := by omega
      have q1 : (y : Int) + i < d.size := by omega
      have lx : Sem.run P (loadCellsFrom ⟨g, off + (x + i) * k, none⟩ 0 k #[]) wr.drew = .ok (enc vx).toArray wr.drew := by rw [← hvx]; exact run_loadCellsFrom_list P _ _ _ k (HK.out _) (HoldsK.cells hHd HK.out (by omega))
      have ly : Sem.run P (loadCellsFrom ⟨g, off + (y + i) * k, none⟩ 0 k #[]) wr.drew = .ok (enc vy).toArray wr.drew := by rw [← hvy]; exact run_loadCellsFrom_list P _ _ _ k (HK.out _) (HoldsK.cells hHd HK.out (by omega))
      have s1 : Sem.run P (storeCells ⟨g, off + (x + i) * k, none⟩ (enc vy) 0) wr.drew = .ok () (wr.drew.setCells g (off + (x + i) * k) (enc vy)) := stores_of_holds P hHd ((x + i) * k) _ (by rw [HK.out, size_flatK]; exact bnd (x + i) (by omega)) (H1.out _)
      have s2 : Sem.run P (storeCells ⟨g, off + (y + i) * k, none⟩ (enc vx) 0) (wr.drew.setCells g (off + (x + i) * k) (enc vy)) = .ok () ((wr.drew.setCells g (off + (x + i) * k) (enc vy)).setCells g (off + (y + i) * k) (enc vx)) :=
        stores_of_holds P (holds_setCells_c hHd ((x + i) * k) _ (by rw [HK.out, size_flatK]; exact bnd (x + i) (by omega))) ((y + i) * k) _ (by rw [HK.out, size_setMany, size_flatK]; exact bnd (y + i) (by omega)) (H1.out _)
      have hsX : (enc vx).length = k := HK.out _
      have hsY : (enc vy).length = k := HK.out _
      clear bnd
      have HHk := Lib.hid hHk
      have HBy := Lib.hid hby
      clear hHd hHk hby
      obtain ⟨cX, hcX⟩ : ∃ c, c = enc vx := ⟨_, rfl⟩
      obtain ⟨cY, hcY⟩ : ∃ c, c = enc vy := ⟨_, rfl⟩
      rw [← hcX] at lx hsX
      rw [← hcY] at ly hsY
      rw [← hcY] at s1
      rw [← hcX, ← hcY] at s2
      have CC : Hid (cX = enc vx ∧ cY = enc vy ∧ dk[x + i]! = vx ∧ dk[y + i]! = vy) := ⟨hcX, hcY, hvx, hvy⟩
      clear hcX hcY hvx hvy
      have HD := Lib.hid hdk
      clear hdk
      go_wp2_with fail
      go_big_region_o
      all_goals go_wp2
      go_roundw
      case rel =>
        have hdk := HD.out
        obtain ⟨k1, k2⟩ := swapWorldK enc k HK.out wr g off dk (x + i) (y + i) HHk.out (by omega) (by omega) (by omega)
        refine ⟨i + 1, swp dk (x + i) (y + i), by go_num, by omega, ?_, HBy.out.swapS (by omega) (by omega), ?_⟩
        · rw [CC.out.1, CC.out.2.1, ← CC.out.2.2.1, ← CC.out.2.2.2]; exact k1
        · rw [CC.out.1, CC.out.2.1, ← CC.out.2.2.1, ← CC.out.2.2.2]; exact hex.trans k2 hsz' (fun q e _ => by cases e; rfl)
      case measure => simp [intOf]; omega
    · obtain rfl : i = n := by omega
      go_wp2
      go_end0
      exact ⟨rfl, dk, hHk, hby, hex⟩
end Go.Proofs.YtdgfankkapeclaaGreat

namespace Go.Proofs.YtdgfankkapeclaaGreat
open Go.RowKit Go.Sort
variable {P : Program} {α : Type} [Inhabited α]

/-- What is left of a rotation: behind f the rotation of [m - i, m + j) about m gives the whole. -/
def RotLeft (f : Nat → Nat) (a m b i j n : Nat) : Prop := (∀ t, t < n → f t < n) ∧ ∀ t, t < n → f (rotIx (m - i) m (m + j) t) = rotIx a m b t
theorem RotLeft.one {f : Nat → Nat} {a m b i j n : Nat} (h : RotLeft f a m b i j n) (hi : i ≤ m) (hj : j < i) (hm : m + j ≤ n) : RotLeft (fun t => f (swIx (m - i) m j t)) a m b (i - j) j n :=
  ⟨fun t ht => h.1 _ (swIx_lt (by omega) (by omega) ht), fun t ht => by
    show f (swIx (m - i) m j (rotIx (m - (i - j)) m (m + j) t)) = _
    rw [show m - (i - j) = m - i + j by omega, rot_step1 hi hj]; exact h.2 t ht⟩
theorem RotLeft.two {f : Nat → Nat} {a m b i j n : Nat} (h : RotLeft f a m b i j n) (hi : i ≤ m) (hj : i < j) (hm : m + j ≤ n) : RotLeft (fun t => f (swIx (m - i) (m + j - i) i t)) a m b i (j - i) n :=
  ⟨fun t ht => h.1 _ (swIx_lt (by omega) (by omega) ht), fun t ht => by
    show f (swIx (m - i) (m + j - i) i (rotIx (m - i) m (m + (j - i)) t)) = _
    rw [rot_step2 hi hj]; exact h.2 t ht⟩

set_option maxHeartbeats 4000000 in
set_option maxRecDepth 1000000 in
theorem rotHeir_any {k : Nat} (L : LayHeir P k) (enc : α → List Value) (hk : ∀ x, (enc x).length = k) (h1 : ∀ x, ∀ v ∈ enc x, v.oneCell' = true) (g off cap a m b s : Nat) (A M B : Int) (hA : (a : Int) = A) (hM : (m : Int) = M) (hB : (b : Int) = B) (F : Value) (d : Array α) (w : World) (hH : HoldsK enc k w g off d) (hg : g < w.heap.size) (ham : a < m) (hmb : m < b) (hb : b ≤ d.size) (hsz : d.size < 4611686018427387904) (hs : d.size = s) :
    Calls P 295 #[.slice (some ⟨g, off, none⟩) s cap, .int .i64 A, .int .i64 M, .int .i64 B, F] w fun e w' =>
      e = .returned (.tuple #[]) ∧ ∃ d', HoldsK enc k w' g off d' ∧ By (rotIx a m b) d d' ∧ Ex w.heap.size (some g) w w' := by
  subst hA hM hB hs
  have mixed := L.mixed; have t0 := L.t0; have a0 := L.a0; have z0 := L.z0; have v0 := L.v0; have t1 := L.t1; have a1 := L.a1; have z1 := L.z1; have v1 := L.v1; have t2 := L.t2; have a2 := L.a2; have z2 := L.z2; have v2 := L.v2; have t3 := L.t3; have a3 := L.a3; have z3 := L.z3; have v3 := L.v3; have t4 := L.t4; have a4 := L.a4; have z4 := L.z4; have v4 := L.v4; have t5 := L.t5; have a5 := L.a5; have z5 := L.z5; have v5 := L.v5; have aE := L.aE; have zE := L.zE
  have eS : ∀ args w, (callFunc 317 args).run P w = .ok (.enter 317 args) w := enters_of L.fS (by kernel_rfl) rfl
  have HK := Lib.hid hk
  have H1 := Lib.hid h1
  clear hk h1
  go_enter L.fR, Tryz.ntmps295
  go_wp2
  go_loopw [10, 11] (fun vi vj wr => ∃ (i j : Nat) (f : Nat → Nat) (dk : Array α), vi = .int .i64 i ∧ vj = .int .i64 j ∧ 1 ≤ i ∧ 1 ≤ j ∧ i ≤ m ∧ m + j ≤ d.size ∧ HoldsK enc k wr g off dk ∧ By f d dk ∧ RotLeft f a m b i j d.size ∧ Ex w.heap.size (some g) w wr) (fun vi vj _ => (intOf vi + intOf vj).toNat)
  case atStart => exact ⟨m - a, b - m, id, d, by congr 1; omega, by congr 1; omega, by omega, by omega, by omega, by omega, hH, By.refl _ _ (fun _ _ => rfl), ⟨fun _ h => h, fun t _ => by show rotIx _ _ _ _ = _; rw [show m - (m - a) = a by omega, show m + (b - m) = b by omega]⟩, Ex.refl _ _ _⟩
  case round =>
    obtain ⟨i, j, f, dk, rfl, rfl, hi, hj, him, hjm, hHk, hby, hrl, hex⟩ := hrel
    have HH := Lib.hid hHk
    have HB := Lib.hid hby
    have HR := Lib.hid hrl
    clear hHk hby hrl
    have hsz' := hex.size
    by_cases hne : i = j
    · have hd : ((i : Int) != (j : Int)) = false := by simp [hne]
      have HN := Lib.hid hne
      clear hne
      go_wp2_with fail
      refine (swapHeir_any L enc HK.out H1.out g off cap (m - i) m i _ _ _ _ (by omega) rfl rfl _ dk _ HH.out (by omega) (by omega) (by have := HB.out.1; have := HN.out; omega) (by have := HB.out.1; omega) HB.out.1).mono ?_
      rintro e w' ⟨rfl, d', hH', hby', hex'⟩
      go_wp2
      go_end0
      refine ⟨rfl, d', hH', (HB.out.trans hby' (fun t ht => swIx_lt (by omega) (by have := HN.out; omega) ht)).congr (fun t ht => ?_), hex.trans hex' hsz' (fun q e _ => by cases e; rfl)⟩
      show f (swIx (m - i) m i t) = _
      rw [rot_last him]
      have := HR.out.2 t ht
      rwa [← HN.out] at this
    · have hd : ((i : Int) != (j : Int)) = true := by simp; omega
      by_cases hlt : j < i
      · have hc : decide ((j : Int) < i) = true := decide_eq_true (by omega)
        go_wp2_with fail
        refine (swapHeir_any L enc HK.out H1.out g off cap (m - i) m j _ _ _ _ (by omega) rfl rfl _ dk _ HH.out (by omega) (by omega) (by have := HB.out.1; omega) (by have := HB.out.1; omega) HB.out.1).mono ?_
        rintro e w' ⟨rfl, d', hH', hby', hex'⟩
        go_wp2
        go_roundw
        case rel => exact ⟨i - j, j, _, d', by congr 1; omega, rfl, by omega, hj, by omega, hjm, hH', HB.out.trans hby' (fun t ht => swIx_lt (by omega) (by omega) ht), HR.out.one him hlt hjm, hex.trans hex' hsz' (fun q e _ => by cases e; rfl)⟩
        case measure => simp [intOf]; omega
      · have hc : decide ((j : Int) < i) = false := decide_eq_false (by omega)
        go_wp2_with fail
        refine (swapHeir_any L enc HK.out H1.out g off cap (m - i) (m + j - i) i _ _ _ _ (by omega) (by omega) rfl _ dk _ HH.out (by omega) (by omega) (by have := HB.out.1; omega) (by have := HB.out.1; omega) HB.out.1).mono ?_
        rintro e w' ⟨rfl, d', hH', hby', hex'⟩
        go_wp2
        go_roundw
        case rel => exact ⟨i, j - i, _, d', rfl, by congr 1; omega, hi, by omega, him, by omega, hH', HB.out.trans hby' (fun t ht => swIx_lt (by omega) (by omega) ht), HR.out.two him (by omega) hjm, hex.trans hex' hsz' (fun q e _ => by cases e; rfl)⟩
        case measure => simp [intOf]; omega
end Go.Proofs.YtdgfankkapeclaaGreat

namespace Go.Proofs.YtdgfankkapeclaaGreat
open Go.RowKit Go.Sort
variable {P : Program} {α : Type} [Inhabited α]

/-- The merge's contract for at most N elements. -/
def SymOKHeir (P : Program) (k : Nat) (enc : α → List Value) (cf : α → α → Int) (F : Value) (g off cap s N : Nat) : Prop :=
  ∀ (a m b : Nat) (A M B : Int) (d : Array α) (w : World), (a : Int) = A → (m : Int) = M → (b : Int) = B → HoldsK enc k w g off d → g < w.heap.size → a < m → m < b → b ≤ d.size → b - a ≤ N → d.size = s → SortedIn (ltOf cf) a m d → SortedIn (ltOf cf) m b d →
    Calls P 269 #[.slice (some ⟨g, off, none⟩) s cap, .int .i64 A, .int .i64 M, .int .i64 B, F] w fun e w' =>
      e = .returned (.tuple #[]) ∧ ∃ d', HoldsK enc k w' g off d' ∧ SM (ltOf cf) a b d d' ∧ SortedIn (ltOf cf) a b d' ∧ Ex w.heap.size (some g) w w'
def CutFacts (lt : α → α → Bool) (d : Array α) (a q m e b : Nat) : Prop := (∀ x y, q ≤ x → x < m → m ≤ y → y < e → lt d[y]! d[x]! = true) ∧ ∀ x y, a ≤ x → x < q → e ≤ y → y < b → lt d[y]! d[x]! = false

end Go.Proofs.YtdgfankkapeclaaGreat

namespace Go.Proofs.YtdgfankkapeclaaGreat
open Go.RowKit Go.Sort Go.Lib

theorem strict_ext : ∀ xs ys : List Int, xs.Pairwise (· < ·) → ys.Pairwise (· < ·) → (∀ x, x ∈ xs ↔ x ∈ ys) → xs = ys
  | [], [], _, _, _ => rfl
  | [], y :: r, _, _, h => by have := (h y).2 (by simp); simp at this
  | x :: r, [], _, _, h => by have := (h x).1 (by simp); simp at this
  | x :: r, y :: s, h1, h2, h => by
    rw [List.pairwise_cons] at h1 h2
    have e : x = y := by
      have a := (h x).1 (by simp)
      have b := (h y).2 (by simp)
      simp only [List.mem_cons] at a b
      rcases a with a | a
      · exact a
      · rcases b with b | b
        · exact b.symm
        · have := h1.1 y b; have := h2.1 x a; omega
    subst e
    congr 1
    refine strict_ext r s h1.2 h2.2 fun z => ?_
    constructor
    · intro hz
      have := (h z).1 (by simp [hz])
      simp only [List.mem_cons] at this
      rcases this with e | e
      · have := h1.1 z hz; omega
      · exact e
    · intro hz
      have := (h z).2 (by simp [hz])
      simp only [List.mem_cons] at this
      rcases this with e | e
      · have := h2.1 z hz; omega
      · exact e
theorem strict_snoc {xs : List Int} {y : Int} (h : xs.Pairwise (· < ·)) (hy : ∀ x ∈ xs, x < y) : (xs ++ [y]).Pairwise (· < ·) := by
  rw [List.pairwise_append]
  exact ⟨h, by simp, fun a ha b hb => by simp at hb; subst hb; exact hy a ha⟩
theorem keysTo_strict (c : Int → Bool) (n : Nat) : (keysTo c n).Pairwise (· < ·) := by
  induction n with
  | zero => simp [keysTo]
  | succ n ih =>
    rw [keysTo]
    split
    · exact strict_snoc ih fun x hx => (mem_keysTo.1 hx).2.1
    · simpa using ih
theorem comp_strict (d : Array Int) (hs : ∀ i j, i ≤ j → j < d.size → d[i]! ≤ d[j]!) : ∀ m, m ≤ d.size → (compactUpTo d m).Pairwise (· < ·) ∧ (∀ x, x ∈ compactUpTo d m ↔ ∃ i, i < m ∧ d[i]! = x)
  | 0, _ => ⟨by simp [compactUpTo], fun x => by simp [compactUpTo]⟩
  | m + 1, hm => by
    obtain ⟨h1, h2⟩ := comp_strict d hs m (by omega)
    rw [compactUpTo_succ]
    cases e : keeps d m with
    | true =>
      rw [if_pos rfl]
      refine ⟨strict_snoc h1 fun x hx => ?_, fun x => ?_⟩
      · obtain ⟨i, hi, rfl⟩ := (h2 x).1 hx
        have a := hs i (m - 1) (by omega) (by omega)
        have b := hs (m - 1) m (by omega) (by omega)
        have c : d[m]! ≠ d[m - 1]! := by
          unfold keeps at e
          have : ¬ m = 0 := by omega
          simpa [this] using e
        omega
      · rw [List.mem_append, h2]
        constructor
        · rintro (⟨i, hi, h⟩ | h)
          · exact ⟨i, by omega, h⟩
          · simp at h; exact ⟨m, by omega, h.symm⟩
        · rintro ⟨i, hi, h⟩
          by_cases c : i = m
          · subst c; right; simp [h]
          · exact Or.inl ⟨i, by omega, h⟩
    | false =>
      rw [if_neg (by simp), List.append_nil]
      refine ⟨h1, fun x => ?_⟩
      rw [h2]
      have h0 : m ≠ 0 := by intro h0; subst h0; simp [keeps] at e
      have c : d[m]! = d[m - 1]! := by
        unfold keeps at e
        simpa [h0] using e
      constructor
      · rintro ⟨i, hi, h⟩; exact ⟨i, by omega, h⟩
      · rintro ⟨i, hi, h⟩
        by_cases c' : i = m
        · subst c'; exact ⟨i - 1, by omega, by rw [← c]; exact h⟩
        · exact ⟨i, by omega, h⟩

/-- The numbers of a list, each once, ascending. -/
def uniq (l : List Int) : List Int := Lib.compact (l.mergeSort fun x y => decide (x ≤ y))
theorem compact_spec (s : List Int) (hp : s.Pairwise (fun x y => decide (x ≤ y) = true)) : (Lib.compact s).Pairwise (· < ·) ∧ ∀ x, x ∈ Lib.compact s ↔ x ∈ s := by
  have hs : ∀ i j, i ≤ j → j < s.toArray.size → s.toArray[i]! ≤ s.toArray[j]! := fun i j hij hj => by
    have hj' : j < s.length := by simpa using hj
    rw [getElem!_pos s.toArray i (by simp; omega), getElem!_pos s.toArray j hj]
    simp only [List.getElem_toArray]
    by_cases c : i = j
    · subst c; exact Int.le_refl _
    · have := List.pairwise_iff_getElem.1 hp i j (by omega) hj' (by omega)
      simpa using this
  obtain ⟨h1, h2⟩ := comp_strict s.toArray hs s.length (by simp)
  refine ⟨h1, fun x => (h2 x).trans ?_⟩
  rw [List.mem_iff_getElem]
  constructor
  · rintro ⟨i, hi, h⟩
    refine ⟨i, hi, ?_⟩
    rw [getElem!_pos s.toArray i (by simpa using hi)] at h
    simpa using h
  · rintro ⟨i, hi, h⟩
    refine ⟨i, hi, ?_⟩
    rw [getElem!_pos s.toArray i (by simpa using hi)]
    simpa using h
theorem uniq_spec (l : List Int) : (uniq l).Pairwise (· < ·) ∧ ∀ x, x ∈ uniq l ↔ x ∈ l := by
  have hp : (l.mergeSort fun x y => decide (x ≤ y)).Pairwise (fun x y => decide (x ≤ y) = true) := List.pairwise_mergeSort (fun a b c h1 h2 => by simp at *; omega) (fun a b => by simp; omega) l
  obtain ⟨h1, h2⟩ := compact_spec _ hp
  exact ⟨h1, fun x => (h2 x).trans List.mem_mergeSort⟩
/-- Of keys the numbers, each once, ascending, are what the reference's Join makes of them. -/
theorem uniq_keys (l : List Int) (h : ∀ x ∈ l, 0 ≤ x ∧ x < 64) : uniq l = joinI l [] := by
  obtain ⟨h1, h2⟩ := uniq_spec l
  refine strict_ext _ _ h1 (keysTo_strict _ _) fun x => ?_
  unfold joinI
  rw [h2, mem_keysTo]
  simp only [hasI_nil, Bool.or_false, hasI_iff]
  exact ⟨fun hx => ⟨(h x hx).1, (h x hx).2, hx⟩, fun hx => hx.2.2⟩

theorem ex_putRow {α : Type} [Inhabited α] (enc : α → Value) (w : World) (g off n : Nat) (d : Array α) (os : Array Obj) : Ex w.heap.size (some g) w (grow (putRow enc (Go.Sort.ahead w n) g off d) os) := by
  refine ⟨rfl, rfl, rfl, ?_, fun i hi hne => ?_⟩
  · rw [size_grow]
    unfold putRow mapBlock Go.Sort.ahead
    simp
  · rw [heap_grow_old _ _ (by unfold putRow mapBlock Go.Sort.ahead; simpa using hi)]
    unfold putRow mapBlock Go.Sort.ahead
    simp only [Array.getElem?_modify]
    rw [if_neg (by intro e; exact hne (by rw [e]))]
theorem holds_ints {w : World} {g off : Nat} {xs : List Int} (h : Holds (Value.int .i64) w g off xs.toArray) : IntsAt w (some ⟨g, off, none⟩) xs := by
  intro j hj
  refine ⟨g, off, rfl, fun i hi => ?_⟩
  rw [(h i (by simpa using hi)).1, getElem!_pos xs.toArray i (by simpa using hi)]
  simp [List.getD, hi]
theorem own_holds {w : World} {base g o cap n : Nat} {xs : List Int} (h : w.ownsRow base 3 1 (.slice (some ⟨g, o, none⟩) n cap) n (xs.map (Value.int .i64))) : Holds (Value.int .i64) w g 0 xs.toArray := by
  obtain ⟨_, _, _, _, h1, h2⟩ := own_there h
  intro j hj
  have hj' : j < xs.length := by simpa using hj
  rw [Nat.zero_add]
  refine ⟨h1 j _ ?_, h2 j⟩
  rw [getElem!_pos xs.toArray j hj]
  simp [hj']

set_option maxHeartbeats 400000 in
/-- slices.Sort of an owned slice of ints. -/
theorem sortInts_any (ro : Option Addr) (rc n base : Nat) (xs : List Int) (w : World) (hown : OwnI w base ro rc xs) (hn : xs.length = n) (hm : xs.length ≤ 1000000000000) :
    Calls Tryz.prog 66 #[.slice ro n rc] w fun e w' => e = .returned (.tuple #[]) ∧ Ex base none w w' ∧
      (xs = [] ∨ ∃ g, ro = some ⟨g, 0, none⟩ ∧ base ≤ g ∧ g < w'.heap.size ∧ xs.length ≤ rc ∧ Holds (Value.int .i64) w' g 0 (xs.mergeSort fun x y => decide (x ≤ y)).toArray) := by
  subst hn
  rcases hown.2 with ⟨h1, h2⟩ | ⟨g, cap, cur, hv, hg, hh, _⟩
  · have hx : xs = [] := List.eq_nil_of_length_eq_zero h2
    subst hx
    refine (Tryz.slices_Sort_int_none ro rc w).mono ?_
    rintro e w' ⟨rfl, rfl⟩
    exact ⟨rfl, Ex.refl _ _ _, Or.inl rfl⟩
  · cases hv
    have hc := hown.cap
    have hb := (Array.getElem?_eq_some_iff.1 hh).1
    have hH := own_holds hown
    refine (Tryz.slices_Sort_int g 0 rc xs w hH hb (by omega)).mono ?_
    rintro e w' ⟨rfl, k, os, rfl⟩
    have hex := ex_putRow (Value.int .i64) w g 0 k (xs.mergeSort fun x y => decide (x ≤ y)).toArray os
    refine ⟨rfl, ((hex.mono (show base ≤ w.heap.size by omega)).above hg), Or.inr ⟨g, rfl, hg, Nat.lt_of_lt_of_le hb hex.size, hc, ?_⟩⟩
    exact holds_grow (Value.int .i64) _ os g 0 _ (by unfold putRow mapBlock Go.Sort.ahead; simpa using hb) (holds_putRow (Value.int .i64) _ g 0 xs.toArray _ (holds_ahead (Value.int .i64) w k g 0 _ hH) (by simp))

set_option maxHeartbeats 400000 in
/-- slices.Compact behind it. -/
theorem compactInts_any (ro : Option Addr) (rc n base : Nat) (xs : List Int) (w : World) (hn : xs.length = n) (hm : xs.length ≤ 1000000000000)
    (h : xs = [] ∨ ∃ g, ro = some ⟨g, 0, none⟩ ∧ base ≤ g ∧ g < w.heap.size ∧ xs.length ≤ rc ∧ Holds (Value.int .i64) w g 0 (xs.mergeSort fun x y => decide (x ≤ y)).toArray) (hb : base ≤ w.heap.size) :
    Calls Tryz.prog 67 #[.slice ro n rc] w fun e w' => e = .returned (.slice ro (uniq xs).length rc) ∧ Ex base none w w' ∧ IntsAt w' ro (uniq xs) := by
  subst hn
  rcases h with rfl | ⟨g, rfl, hg, hlt, hc, hH⟩
  · refine (Tryz.slices_Compact_int_empty ro rc w).mono ?_
    rintro e w' ⟨rfl, rfl⟩
    have : uniq [] = [] := by simp [uniq, Lib.compact, Lib.compactUpTo]
    exact ⟨by rw [this]; rfl, Ex.refl _ _ _, by rw [this]; exact IntsAt.nil _ _⟩
  · have hl : (xs.mergeSort fun x y => decide (x ≤ y)).length = xs.length := by simp
    have h := Tryz.slices_Compact_int g 0 rc (xs.mergeSort fun x y => decide (x ≤ y)) w hH (by omega) (by omega)
    rw [hl] at h
    refine h.mono ?_
    rintro e w' ⟨rfl, q, rfl⟩
    have hex := ex_putRow (Value.int .i64) w g 0 q (Lib.compact (xs.mergeSort fun x y => decide (x ≤ y)) ++ List.replicate (xs.length - (Lib.compact (xs.mergeSort fun x y => decide (x ≤ y))).length) 0).toArray #[]
    rw [grow_empty] at hex
    have hle : (Lib.compact (xs.mergeSort fun x y => decide (x ≤ y))).length ≤ xs.length := by
      rw [← hl]
      unfold Lib.compact Lib.compactUpTo
      simp only [List.length_map]
      exact Nat.le_trans (List.length_filter_le _ _) (by simp)
    refine ⟨rfl, (hex.mono hb).above hg, ?_⟩
    have hH2 := holds_putRow (Value.int .i64) (Go.Sort.ahead w q) g 0 (xs.mergeSort fun x y => decide (x ≤ y)).toArray (Lib.compact (xs.mergeSort fun x y => decide (x ≤ y)) ++ List.replicate (xs.length - (Lib.compact (xs.mergeSort fun x y => decide (x ≤ y))).length) 0).toArray (holds_ahead (Value.int .i64) w q g 0 _ hH) (by simp; omega)
    have := (holds_ints hH2).take (uniq xs).length
    have e : (Lib.compact (xs.mergeSort fun x y => decide (x ≤ y)) ++ List.replicate (xs.length - (Lib.compact (xs.mergeSort fun x y => decide (x ≤ y))).length) (0 : Int)).take (uniq xs).length = uniq xs := by
      unfold uniq
      rw [List.take_left]
    rwa [e] at this
end Go.Proofs.YtdgfankkapeclaaGreat

namespace Go.Proofs.YtdgfankkapeclaaGreat
open Go.RowKit Go.Sort

theorem heirs_neq (y z : (Int × Int)) : ∀ w, (binOp .neq 34 (.agg #[.int .i64 y.1, .int .i64 y.2]) (.agg #[.int .i64 z.1, .int .i64 z.2])).run Tryz.prog w = .ok (.bool (!decide (y = z))) w := fun w => by
  obtain ⟨y1, y2⟩ := y
  obtain ⟨z1, z2⟩ := z
  simp [go_sem]
  by_cases h1 : y1 = z1 <;> by_cases h2 : y2 = z2 <;> simp [h1, h2]

set_option maxHeartbeats 400000 in
theorem same35_any {P Q : Nat → Prop} (v1 v2 : Value) (xs ys : List (Int × Int)) (w : World) (hv1 : Sl heirRep P w v1 xs) (hv2 : Sl heirRep Q w v2 ys) (hm : xs.length ≤ 9223372036854775807) :
    Calls Tryz.prog 25 #[v1, v2] w fun e w' => e = .returned (.bool (decide (xs = ys))) ∧ Ex w.heap.size none w w' := by
  obtain ⟨ao, cap, rfl, hx⟩ := hv1
  obtain ⟨bo, cbp, rfl, hy⟩ := hv2
  by_cases hl : xs.length = ys.length
  · have hl1 : ((xs.length : Int) != ys.length) = false := by simp [hl]
    have HL := Lib.hid hl
    go_enter Tryz.func25, Tryz.ntmps25
    clear hl
    go_wp2
    clear hl1
    go_loopw [5] (fun i wr => ∃ k : Nat, k ≤ xs.length ∧ i = .int .i64 k ∧ xs.take k = ys.take k ∧ ∃ n, w.drewN n = wr) (fun i _ => xs.length - (intOf i).toNat)
    case atStart => exact ⟨0, Nat.zero_le _, rfl, by simp, 0, rfl⟩
    case round =>
      obtain ⟨k, hk, rfl, ht, n, rfl⟩ := hrel
      have HT := Lib.hid ht
      clear ht
      by_cases hlt : k < xs.length
      · have hlt2 : k < ys.length := by have := HL.out; omega
        obtain ⟨b, off, cs, y, rfl, _, hr, hR, HY⟩ := hx.get k hlt
        obtain ⟨b', off', cs', z, rfl, _, hr', hR', HZ⟩ := hy.get k hlt2
        have c0 : ∀ q, (w.drewN q).cell? ⟨b, off + k * 2, none⟩ = some (.int .i64 y.1) := fun q => hr 0 _ (by rw [show cs = _ from hR]; rfl)
        have c1 : ∀ q, (w.drewN q).cell? ⟨b, off + k * 2 + 1, none⟩ = some (.int .i64 y.2) := fun q => hr 1 _ (by rw [show cs = _ from hR]; rfl)
        have d0 : ∀ q, (w.drewN q).cell? ⟨b', off' + k * 2, none⟩ = some (.int .i64 z.1) := fun q => hr' 0 _ (by rw [show cs' = _ from hR']; rfl)
        have d1 : ∀ q, (w.drewN q).cell? ⟨b', off' + k * 2 + 1, none⟩ = some (.int .i64 z.2) := fun q => hr' 1 _ (by rw [show cs' = _ from hR']; rfl)
        have hne := heirs_neq y z
        clear hr hR hr' hR'
        by_cases he : y = z
        · have HR := Lib.hid (same_takeG HT.out HY.out HZ.out he)
          have hne' : ∀ w, (binOp .neq 34 (.agg #[.int .i64 y.1, .int .i64 y.2]) (.agg #[.int .i64 z.1, .int .i64 z.2])).run Tryz.prog w = .ok (.bool false) w := fun w => by
            have := hne w; rw [decide_eq_true he] at this; exact this
          clear hne he
          go_wp2_with fail
          go_quiet (fail)
          go_wp2
          go_roundw
          case rel => exact ⟨k + 1, by omega, by go_num, HR.out, _, rfl⟩
          case measure => simp [intOf]; omega
        · have HR : Hid (xs ≠ ys) := fun h => he (by have := HY.out; rw [h, HZ.out] at this; cases this; rfl)
          have hne' : ∀ w, (binOp .neq 34 (.agg #[.int .i64 y.1, .int .i64 y.2]) (.agg #[.int .i64 z.1, .int .i64 z.2])).run Tryz.prog w = .ok (.bool true) w := fun w => by
            have := hne w; rw [decide_eq_false he] at this; exact this
          clear hne he
          go_wp2_with fail
          go_quiet (fail)
          go_wp2
          go_ret
          exact ⟨ret_bool (by simp [HR.out]), by repeat (first | exact Ex.refl _ _ _ | refine Ex.drewN ?_)⟩
      · have HR : Hid (xs = ys) := by
          have h := HT.out
          have := HL.out
          rwa [List.take_of_length_le (by omega), List.take_of_length_le (by omega)] at h
        go_wp2
        go_ret
        exact ⟨ret_bool (by simp [HR.out]), by repeat (first | exact Ex.refl _ _ _ | refine Ex.drewN ?_)⟩
  · have hl1 : ((xs.length : Int) != ys.length) = true := by simp; omega
    have HR : Hid (xs ≠ ys) := fun h => hl (by rw [h])
    clear hl
    go_enter Tryz.func25, Tryz.ntmps25
    go_wp2
    go_ret
    exact ⟨ret_bool (by simp [HR.out]), Ex.refl _ _ _⟩
end Go.Proofs.YtdgfankkapeclaaGreat

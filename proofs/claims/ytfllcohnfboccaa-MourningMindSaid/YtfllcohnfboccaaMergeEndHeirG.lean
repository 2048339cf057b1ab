/- slices.symMergeCmpFunc at trustflow/api.Heir, where the second run has one element and the first more, over whatever program that bears it: a contract, no statement of the seat. -/
import Derived.Test.YtfllcohnfboccaaMergeOneHeirG
namespace Go.Proofs.Ytfllcohnfboccaa
open Go.RowKit Go.Sort
variable {P : Program} {α : Type} [Inhabited α]

set_option maxHeartbeats 8000000 in
set_option maxRecDepth 1000000 in
theorem symEndHeir {k : Nat} (L : LayHeir P k) (enc : α → List Value) (hk : ∀ x, (enc x).length = k) (h1 : ∀ x, ∀ v ∈ enc x, v.oneCell' = true) (cf : α → α → Int) (hS : SWO (ltOf cf)) (f : Nat) (cb : Array Value)
    (ef : ∀ args w, (callFunc f args).run P w = .ok (.enter f args) w) (hcmp : CmpAt P f cb enc cf) (g off cap a m b s : Nat) (A M B : Int) (hA : (a : Int) = A) (hM : (m : Int) = M) (hB : (b : Int) = B) (d : Array α) (w : World) (hH : HoldsK enc k w g off d) (hg : g < w.heap.size) (ham : a < m) (hmb : m < b) (hb : b ≤ d.size) (hsz : d.size < 4611686018427387904) (hs : d.size = s)
    (r1 : SortedIn (ltOf cf) a m d) (r2 : SortedIn (ltOf cf) m b d) (hmore : m ≠ a + 1) (hone : b = m + 1) :
    Calls P 134 #[.slice (some ⟨g, off, none⟩) s cap, .int .i64 A, .int .i64 M, .int .i64 B, .func (.func f) #[] cb] w fun e w' =>
      e = .returned (.tuple #[]) ∧ ∃ d', HoldsK enc k w' g off d' ∧ SM (ltOf cf) a b d d' ∧ SortedIn (ltOf cf) a b d' ∧ Ex w.heap.size (some g) w w' := by
  subst hA hM hB hs
  have mixed := L.mixed; have t0 := L.t0; have a0 := L.a0; have z0 := L.z0; have v0 := L.v0; have t1 := L.t1; have a1 := L.a1; have z1 := L.z1; have v1 := L.v1; have t2 := L.t2; have a2 := L.a2; have z2 := L.z2; have v2 := L.v2; have t3 := L.t3; have a3 := L.a3; have z3 := L.z3; have v3 := L.v3; have t4 := L.t4; have a4 := L.a4; have z4 := L.z4; have v4 := L.v4; have t5 := L.t5; have a5 := L.a5; have z5 := L.z5; have v5 := L.v5; have aE := L.aE; have zE := L.zE
  have u4 := run_underlying L.t4
  have HK := Lib.hid hk
  have H1 := Lib.hid h1
  have HC := Lib.hid hcmp
  have HHw := Lib.hid hH
  have HS := Lib.hid hS
  have HR1 := Lib.hid r1
  have HR2 := Lib.hid r2
  clear hk h1 hcmp hH hS r1 r2
  have hd : (((m : Int) - a) == 1) = false := by simp; omega
  have hd2 : (((b : Int) - m) == 1) = true := by simp; omega
  have HO := Lib.hid hone
  clear hone hmore
  have hmb' : b ≤ m + 1 := by have := HO.out; omega
  go_enter L.fM, Try.ntmps134
  go_wp2
  go_loopw [14, 15] (fun vi vj wr => ∃ (i j : Nat), vi = .int .i64 i ∧ vj = .int .i64 j ∧ a ≤ i ∧ i ≤ j ∧ j ≤ m ∧ HoldsK enc k wr g off d ∧ EndLo (ltOf cf) d m a i ∧ EndHi (ltOf cf) d m j ∧ Ex w.heap.size (some g) w wr) (fun vi vj _ => (intOf vj - intOf vi).toNat)
  case atStart => exact ⟨a, m, rfl, rfl, Nat.le_refl _, by omega, Nat.le_refl _, HHw.out, fun h h1 h2 => by omega, fun h h1 h2 => by omega, Ex.refl _ _ _⟩
  case round =>
    obtain ⟨i, j, rfl, rfl, hmi, hij, hjb, hHk, hlo, hhi, hex⟩ := hrel
    have HHk := Lib.hid hHk
    have HLo := Lib.hid hlo
    have HHi := Lib.hid hhi
    clear hHk hlo hhi
    have hsz' := hex.size
    by_cases hlt : (i : Int) < j
    · obtain ⟨h, hh⟩ : ∃ h, h = (i + j) / 2 := ⟨_, rfl⟩
      have h1 : i ≤ h := by omega
      have h2 : h < j := by omega
      have e1 : ((i : Int) + j) / 2 = (h : Int) := by omega
      clear hh
      have hHc : ∀ n' os', HoldsK enc k (grow (wr.drewN n') os') g off d := fun n' os' => holdsK_grow enc k _ os' g off d (by show g < wr.heap.size; omega) (show HoldsK enc k (wr.drewN n') g off d from HHk.out)
      obtain ⟨vm, hvm⟩ : ∃ v, d[m]! = v := ⟨_, rfl⟩
      obtain ⟨vh, hvh⟩ : ∃ v, d[h]! = v := ⟨_, rfl⟩
      have l1 : ∀ n' os', Sem.run P (loadCellsFrom ⟨g, off + m * k, none⟩ 0 k #[]) (grow (wr.drewN n') os') = .ok (enc vm).toArray (grow (wr.drewN n') os') := fun n' os' => by
        rw [← hvm]; exact run_loadCellsFrom_list P _ _ _ k (HK.out _) (HoldsK.cells (hHc n' os') HK.out (by omega))
      have l2 : ∀ n' os', Sem.run P (loadCellsFrom ⟨g, off + h * k, none⟩ 0 k #[]) (grow (wr.drewN n') os') = .ok (enc vh).toArray (grow (wr.drewN n') os') := fun n' os' => by
        rw [← hvh]; exact run_loadCellsFrom_list P _ _ _ k (HK.out _) (HoldsK.cells (hHc n' os') HK.out (by omega))
      have hcg : ∀ n' os', Calls P f (#[.agg (enc vm).toArray, .agg (enc vh).toArray] ++ cb) (grow (wr.drewN n') os') fun e w' => e = .returned (.int .i64 (cf vm vh)) ∧ ∃ q os'', w' = grow ((grow (wr.drewN n') os').drewN q) os'' := fun n' os' => HC.out _ _ _
      have HV : Hid (d[m]! = vm ∧ d[h]! = vh) := ⟨hvm, hvh⟩
      clear hHc hvm hvh
      have b1 : (m : Int) < d.size := by omega
      have b2 : (h : Int) < d.size := by omega
      by_cases hlv : cf vm vh < 0
      · have hl' : decide (cf vm vh < 0) = true := decide_eq_true hlv
        go_wp2_with fail
        go_quiet_grown (first | (go_at_fn f; refine Calls.grown_of (hcg _ _)))
        go_wp2
        go_roundw
        case rel => exact ⟨i, h, rfl, rfl, hmi, h1, by omega, holdsK_grow enc k _ _ g off d (by show g < wr.heap.size; omega) (show HoldsK enc k (wr.drewN nq) g off d from HHk.out), HLo.out, EndHi.step HS.out HR1.out (by omega) (by rw [HV.out.1, HV.out.2]; exact decide_eq_true hlv), hex.trans (ex_grow' nq osq none (Nat.le_refl _)) hsz' (by simp)⟩
        case measure => simp [intOf]; omega
      · have hl' : decide (cf vm vh < 0) = false := decide_eq_false hlv
        go_wp2_with fail
        go_quiet_grown (first | (go_at_fn f; refine Calls.grown_of (hcg _ _)))
        go_wp2
        go_roundw
        case rel => exact ⟨h + 1, j, by go_num, rfl, by omega, by omega, hjb, holdsK_grow enc k _ _ g off d (by show g < wr.heap.size; omega) (show HoldsK enc k (wr.drewN nq) g off d from HHk.out), EndLo.step HS.out HR1.out (by omega) (by rw [HV.out.1, HV.out.2]; exact decide_eq_false (fun hx => by omega)), HHi.out, hex.trans (ex_grow' nq osq none (Nat.le_refl _)) hsz' (by simp)⟩
        case measure => simp [intOf]; omega
    · obtain rfl : i = j := by omega
      obtain ⟨w0, rfl⟩ : ∃ w0 : World, w0 = wr := ⟨_, rfl⟩
      go_wp2
      go_loopw [17] (fun vk wr => ∃ (t : Nat) (dk : Array α), vk = .int .i64 t ∧ i ≤ t ∧ t ≤ m ∧ HoldsK enc k wr g off dk ∧ By (rotIx t m (m + 1)) d dk ∧ Ex w.heap.size (some g) w wr) (fun vk _ => (intOf vk).toNat - i)
      case atStart => exact ⟨m, d, rfl, by omega, Nat.le_refl _, HHk.out, By.refl _ _ (fun t _ => rotIx_id (Nat.le_refl _) (by omega) (Or.inl rfl)), hex⟩
      case round =>
        clear HHk hex hsz'
        obtain ⟨t, dk, rfl, hat, hti, hHk, hby, hex⟩ := hrel
        have HHk := Lib.hid hHk
        have HBy := Lib.hid hby
        clear hHk hby
        have hsz' := hex.size
        by_cases hlt2 : (i : Int) < t
        · obtain ⟨t, rfl⟩ : ∃ t', t = t' + 1 := ⟨t - 1, by omega⟩
          have hlt3 : (i : Int) < (t : Int) + 1 := by omega
          have e0 : ((t : Int) + 1).toNat = t + 1 := by omega
          have p0 : (0 : Int) ≤ (t : Int) + 1 := by omega
          have q0 : (t : Int) + 1 < d.size := by omega
          have q1 : (t : Int) < d.size := by omega
          have hwp : IntKind.i64.wrap (t : Int) = (t : Int) := by rw [IntKind.wrap_i64]; omega
          have hHd : HoldsK enc k wr.drew g off dk := HHk.out
          have hds : dk.size = d.size := HBy.out.1
          obtain ⟨vx, hvx⟩ : ∃ v, dk[t + 1]! = v := ⟨_, rfl⟩
          obtain ⟨vy, hvy⟩ : ∃ v, dk[t]! = v := ⟨_, rfl⟩
          have bnd : ∀ x, x < dk.size → x * k + k ≤ dk.size * k := fun x hx => by
            have := Nat.mul_le_mul_right k (show x + 1 ≤ dk.size from hx); rwa [Nat.add_mul, Nat.one_mul] at this
          have lx : Sem.run P (loadCellsFrom ⟨g, off + (t + 1) * k, none⟩ 0 k #[]) wr.drew = .ok (enc vx).toArray wr.drew := by rw [← hvx]; exact run_loadCellsFrom_list P _ _ _ k (HK.out _) (HoldsK.cells hHd HK.out (by omega))
          have ly : Sem.run P (loadCellsFrom ⟨g, off + (t) * k, none⟩ 0 k #[]) wr.drew = .ok (enc vy).toArray wr.drew := by rw [← hvy]; exact run_loadCellsFrom_list P _ _ _ k (HK.out _) (HoldsK.cells hHd HK.out (by omega))
          have s1 : Sem.run P (storeCells ⟨g, off + (t + 1) * k, none⟩ (enc vy) 0) wr.drew = .ok () (wr.drew.setCells g (off + (t + 1) * k) (enc vy)) := stores_of_holds P hHd ((t + 1) * k) _ (by rw [HK.out, size_flatK]; exact bnd (t + 1) (by omega)) (H1.out _)
          have s2 : Sem.run P (storeCells ⟨g, off + (t) * k, none⟩ (enc vx) 0) (wr.drew.setCells g (off + (t + 1) * k) (enc vy)) = .ok () ((wr.drew.setCells g (off + (t + 1) * k) (enc vy)).setCells g (off + (t) * k) (enc vx)) :=
            stores_of_holds P (holds_setCells_c hHd ((t + 1) * k) _ (by rw [HK.out, size_flatK]; exact bnd (t + 1) (by omega))) ((t) * k) _ (by rw [HK.out, size_setMany, size_flatK]; exact bnd (t) (by omega)) (H1.out _)
          have hsX : (enc vx).length = k := HK.out _
          have hsY : (enc vy).length = k := HK.out _
          clear bnd hHd
          obtain ⟨cX, hcX⟩ : ∃ c, c = enc vx := ⟨_, rfl⟩
          obtain ⟨cY, hcY⟩ : ∃ c, c = enc vy := ⟨_, rfl⟩
          rw [← hcX] at lx hsX
          rw [← hcY] at ly hsY
          rw [← hcY] at s1
          rw [← hcX, ← hcY] at s2
          have CC : Hid (cX = enc vx ∧ cY = enc vy ∧ dk[t + 1]! = vx ∧ dk[t]! = vy) := ⟨hcX, hcY, hvx, hvy⟩
          clear hcX hcY hvx hvy hds
          go_wp2_with fail
          go_big_region_o
          all_goals go_wp2
          go_roundw
          case rel =>
            have hds : dk.size = d.size := HBy.out.1
            obtain ⟨k1, k2⟩ := swapWorldK enc k HK.out wr g off dk (t + 1) t HHk.out (by omega) (by omega) (by omega)
            refine ⟨t, swp dk (t + 1) t, by first | rfl | go_num | (congr 1; omega), by omega, by omega, ?_, HBy.out.down hti (by omega), ?_⟩
            · rw [CC.out.1, CC.out.2.1, ← CC.out.2.2.1, ← CC.out.2.2.2]; exact k1
            · rw [CC.out.1, CC.out.2.1, ← CC.out.2.2.1, ← CC.out.2.2.2]; exact hex.trans k2 hsz' (fun q e _ => by cases e; rfl)
          case measure => simp [intOf] <;> omega
        · go_wp2
          refine bodyPost_ret (results_none rfl _ _ _) rfl ?_
          have h0 := HBy.out
          rw [show t = i by omega] at h0
          obtain ⟨x1, x2⟩ := one_behind HS.out h0 hmi (by omega) (by omega) HR1.out HLo.out HHi.out
          rw [← HO.out] at x1 x2
          exact ⟨rfl, dk, HHk.out, x1, x2, hex⟩
end Go.Proofs.Ytfllcohnfboccaa

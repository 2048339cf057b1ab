/- slices.Compact at trustflow/api.Case, over whatever program that bears it: a contract, no statement of the seat. | made.Mod: contracts, no statement of the seat. | Dice: Roll, Next, Some, Keys: contracts, no statement of the seat. | Dice.One: a contract, no statement of the seat. | A whole row of cells: not frozen; set cell by cell. No statement of the seat. | A region that draws its order, whose first operations are quiet in a class of worlds and whose last ones stand in one order: one walk of the text's order. For whatever program; no statement of the seat. | A region that draws its order, by what each of its operations establishes out of what it waits for: one proof an operation, whatever the order. For whatever program; no statement of the seat. | A region that draws its order, its operations' facts as a list: each fact stays where nothing that was there is turned. For whatever program; no statement of the seat. | mill.Mod: contracts, no statement of the seat. | Some: contracts, no statement of the seat. | mill.Keys: contracts, no statement of the seat. | ref24.Has: contracts, no statement of the seat. | Join, Minus: contracts, no statement of the seat. | Minus: a contract, no statement of the seat. | Sorted and compacted numbers: plain laws; the library's Sort and Compact at ints, met in these texts' words. No statement of the seat. -/
import Derived.Test.YtaihmldiglgipaaGreatMg01
import Derived.Test.YtaihmldiglgipaaGreatRows
import Derived.Test.YtaihmldiglgipaaGreatMg00
import Derived.StillTail
import Derived.Test.YtaihmldiglgipaaGreatShelf
namespace Go.Proofs.YtaihmldiglgipaaGreat
open Go.RowKit Go.Sort
variable {P : Program} {α : Type} [Inhabited α]

/-- Two of them compared, as words that the walk does not open. -/
def eqlCs (a b : Value) : Sem Value := binOp .eql 50 a b
def neqCs (a b : Value) : Sem Value := binOp .neq 50 a b
theorem eql_Cs (a b : Value) : binOp .eql 50 a b = eqlCs a b := rfl
theorem neq_Cs (a b : Value) : binOp .neq 50 a b = neqCs a b := rfl
attribute [local go_sem ↓ high] eql_Cs neq_Cs
set_option maxHeartbeats 8000000 in
set_option maxRecDepth 1000000 in
theorem compactECs_any {k : Nat} (L : CLayCs P k) (enc : α → List Value) (hk : ∀ x, (enc x).length = k) (h1 : ∀ x, ∀ v ∈ enc x, v.oneCell' = true) (eq : α → α → Bool) (hcmp : ∀ (w : World) (x y : α), (eqlCs (.agg (enc x).toArray) (.agg (enc y).toArray)).run P w = .ok (.bool (eq x y)) w) (hcm2 : ∀ (w : World) (x y : α), (neqCs (.agg (enc x).toArray) (.agg (enc y).toArray)).run P w = .ok (.bool (!eq x y)) w)
    (hEG : P.eqGuardType P.depth 50 = false)
    (fC : P.funcs[85]? = some Tryz.f85)
    (z : Array Value) (hv : ∀ w, (zeroValue 50).run P w = .ok (.agg z) w) (hz : z.size = k) (hz1 : ∀ v ∈ z, v.oneCell' = true)
    (g off cap s : Nat) (d : Array α) (w : World) (hH : HoldsK enc k w g off d) (hg : g < w.heap.size) (hsz : d.size < 1000000000000) (hcap : d.size ≤ cap) (hs : d.size = s) :
    Calls P 85 #[.slice (some ⟨g, off, none⟩) s cap] w fun e w' =>
      e = .returned (.slice (some ⟨g, off, none⟩) (cpt eq d s).length cap) ∧ HoldsK enc k w' g off (cpt eq d s).toArray ∧ Ex w.heap.size (some g) w w' := by
  subst hs
  have mixed := L.mixed; have t0 := L.t0; have a0 := L.a0; have z0 := L.z0; have v0 := L.v0; have t1 := L.t1; have a1 := L.a1; have z1 := L.z1; have v1 := L.v1; have t2 := L.t2; have a2 := L.a2; have z2 := L.z2; have v2 := L.v2; have t3 := L.t3; have a3 := L.a3; have z3 := L.z3; have v3 := L.v3; have t4 := L.t4; have a4 := L.a4; have z4 := L.z4; have v4 := L.v4; have t5 := L.t5; have a5 := L.a5; have z5 := L.z5; have v5 := L.v5; have aE := L.aE; have zE := L.zE
  have u4 := run_underlying L.t4
  have HK := Lib.hid hk
  have H1 := Lib.hid h1
  have HC := Lib.hid (And.intro hcmp hcm2)
  have HHw := Lib.hid hH
  have HZ := Lib.hid (And.intro hv (And.intro hz hz1))
  have same : ∀ wr, (∀ j, j < d.size → stays eq d j = true) → HoldsK enc k wr g off d → (cpt eq d d.size).length = d.size ∧ HoldsK enc k wr g off (cpt eq d d.size).toArray := fun wr hall h => by
    have e := cpt_all hall (Nat.le_refl _)
    rw [e, List.take_of_length_le (by simp)]
    exact ⟨by simp, by simpa using h⟩
  have SAME := Lib.hid same
  clear hk h1 hcmp hcm2 hH hv hz hz1 same
  by_cases h2 : d.size < 2
  · go_enter fC, Tryz.ntmps85
    go_wp2
    go_ret
    obtain ⟨e1, e2⟩ := SAME.out w (fun j hj => by obtain rfl : j = 0 := (by omega); rfl) HHw.out
    exact ⟨by rw [e1]; rfl, e2, Ex.refl _ _ _⟩
  · go_enter fC, Tryz.ntmps85
    go_wp2
    go_loopw [3] (fun s3 wr => ∃ i : Nat, s3 = .int .i64 i ∧ 1 ≤ i ∧ i ≤ d.size ∧ (∀ j, j < i → stays eq d j = true) ∧ HoldsK enc k wr g off d ∧ Ex w.heap.size (some g) w wr) (fun s3 _ => d.size - (intOf s3).toNat)
    case atStart => exact ⟨1, rfl, Nat.le_refl _, by omega, fun j hj => by obtain rfl : j = 0 := (by omega); rfl, HHw.out, Ex.refl _ _ _⟩
    case round =>
      obtain ⟨i, rfl, hi1, hi, hall, hHk, hex⟩ := hrel
      have HHk := Lib.hid hHk
      have HA := Lib.hid hall
      clear hHk hall
      have hsz' := hex.size
      by_cases hlt : i < d.size
      · obtain ⟨ip, hip⟩ : ∃ ip, ip = i - 1 := ⟨_, rfl⟩
        have hwp : IntKind.i64.wrap ((i : Int) - 1) = (ip : Int) := by rw [IntKind.wrap_i64]; omega
        have b1 : (i : Int) < d.size := by omega
        have b2 : (ip : Int) < d.size := by omega
        have HIP := Lib.hid hip
        clear hip
        have hHc : ∀ n' os', HoldsK enc k (grow (wr.drewN n') os') g off d := fun n' os' => holdsK_grow enc k _ os' g off d (by show g < wr.heap.size; omega) (show HoldsK enc k (wr.drewN n') g off d from HHk.out)
        obtain ⟨v1, hv1⟩ : ∃ v, d[i]! = v := ⟨_, rfl⟩
        obtain ⟨v2, hv2⟩ : ∃ v, d[ip]! = v := ⟨_, rfl⟩
        have l1 : ∀ n' os', Sem.run P (loadCellsFrom ⟨g, off + i * k, none⟩ 0 k #[]) (grow (wr.drewN n') os') = .ok (enc v1).toArray (grow (wr.drewN n') os') := fun n' os' => by
          rw [← hv1, show off + i * k = off + (i) * k by rfl]; exact run_loadCellsFrom_list P _ _ _ k (HK.out _) (HoldsK.cells (hHc n' os') HK.out (by omega))
        have l2 : ∀ n' os', Sem.run P (loadCellsFrom ⟨g, off + ip * k, none⟩ 0 k #[]) (grow (wr.drewN n') os') = .ok (enc v2).toArray (grow (wr.drewN n') os') := fun n' os' => by
          rw [← hv2, show off + ip * k = off + (ip) * k by rfl]; exact run_loadCellsFrom_list P _ _ _ k (HK.out _) (HoldsK.cells (hHc n' os') HK.out (by omega))
        have hcg : ∀ W, (eqlCs (.agg (enc v1).toArray) (.agg (enc v2).toArray)).run P W = .ok (.bool (eq v1 v2)) W := fun W => HC.out.1 W v1 v2
        have hcn : ∀ W, (neqCs (.agg (enc v1).toArray) (.agg (enc v2).toArray)).run P W = .ok (.bool (!eq v1 v2)) W := fun W => HC.out.2 W v1 v2
        have HV : Hid (d[i]! = v1 ∧ d[ip]! = v2) := ⟨hv1, hv2⟩
        clear hHc hv1 hv2
        by_cases hlv : eq v1 v2 = true
        · simp only [hlv, Bool.not_true] at hcg hcn
          go_wp2_with fail
          go_quiet_grown (fail)
          have hc0 : i ≤ cap := by omega
          by_cases hce : cap = i
          · omega
          go_wp2
          obtain ⟨wo, hwo⟩ : ∃ wo : World, wo = grow (wr.drewN nq) osq := ⟨_, rfl⟩
          have hHo : HoldsK enc k wo g off d := by rw [hwo]; exact holdsK_grow enc k _ _ g off d (by show g < wr.heap.size; omega) (show HoldsK enc k (wr.drewN nq) g off d from HHk.out)
          have hexo : Ex w.heap.size (some g) w wo := by rw [hwo]; exact hex.trans (exGrowK nq osq none (Nat.le_refl _)) hsz' (by simp)
          rw [← hwo]
          have HHo := Lib.hid hHo
          have HD0 : Hid (stays eq d i = false) := by
            have := stays_of (eq := eq) (d := d) (n := i) (by omega) true (by rw [← HIP.out, HV.out.1, HV.out.2]; exact hlv)
            exact this
          clear hHo hwo l1 l2 hcg hcn hlv
          go_loopw [3, 5] (fun s3 s5 wr => ∃ (kk k2 : Nat) (dk : Array α), s3 = .int .i64 kk ∧ s5 = .int .i64 k2 ∧ 1 ≤ k2 ∧ i + k2 ≤ d.size ∧ CInv eq d (i + k2) kk dk ∧ HoldsK enc k wr g off dk ∧ Ex w.heap.size (some g) w wr) (fun _ s5 _ => d.size - (intOf s5).toNat)
          case atStart => exact ⟨i, 1, d, rfl, rfl, Nat.le_refl _, by omega, CInv.start HA.out HD0.out hlt, HHo.out, hexo⟩
          case round =>
            clear HHk HHo HD0 hex hexo hsz' HV
            obtain ⟨kk, k2, dk, rfl, rfl, h1, hle, hI, hHk, hex⟩ := hrel
            have hkk := hI.lt
            have hds := hI.size
            have HI := Lib.hid hI
            have HHk := Lib.hid hHk
            have HDS := Lib.hid hds
            clear hI hHk hds
            have hsz' := hex.size
            by_cases hlt2 : i + k2 < d.size
            · obtain ⟨mp, hmp⟩ : ∃ mp, mp = k2 - 1 := ⟨_, rfl⟩
              have hwp2 : IntKind.i64.wrap ((k2 : Int) - 1) = (mp : Int) := by rw [IntKind.wrap_i64]; omega
              have hl2 : ((d.size - i : Nat) : Int) = (d.size : Int) - i := by omega
              have b3 : (k2 : Int) < (d.size : Int) - i := by omega
              have b4 : (mp : Int) < (d.size : Int) - i := by omega
              have b5 : k2 < d.size - i := by omega
              have b6 : mp < d.size - i := by omega
              have hdz : dk.size = d.size := HDS.out
              have HMP := Lib.hid hmp
              have HDZ := Lib.hid hdz
              clear hmp hdz
              have hHc : ∀ n' os', HoldsK enc k (grow (wr.drewN n') os') g off dk := fun n' os' => holdsK_grow enc k _ os' g off dk (by show g < wr.heap.size; omega) (show HoldsK enc k (wr.drewN n') g off dk from HHk.out)
              obtain ⟨v1, hv1⟩ : ∃ v, dk[i + k2]! = v := ⟨_, rfl⟩
              obtain ⟨v2, hv2⟩ : ∃ v, dk[i + mp]! = v := ⟨_, rfl⟩
              have l1 : ∀ n' os', Sem.run P (loadCellsFrom ⟨g, off + i * k + k2 * k, none⟩ 0 k #[]) (grow (wr.drewN n') os') = .ok (enc v1).toArray (grow (wr.drewN n') os') := fun n' os' => by
                rw [← hv1, show off + i * k + k2 * k = off + (i + k2) * k by exact shiftAtK _ _ _ _]; exact run_loadCellsFrom_list P _ _ _ k (HK.out _) (HoldsK.cells (hHc n' os') HK.out (by have := HDZ.out; omega))
              have l2 : ∀ n' os', Sem.run P (loadCellsFrom ⟨g, off + i * k + mp * k, none⟩ 0 k #[]) (grow (wr.drewN n') os') = .ok (enc v2).toArray (grow (wr.drewN n') os') := fun n' os' => by
                rw [← hv2, show off + i * k + mp * k = off + (i + mp) * k by exact shiftAtK _ _ _ _]; exact run_loadCellsFrom_list P _ _ _ k (HK.out _) (HoldsK.cells (hHc n' os') HK.out (by have := HDZ.out; omega))
              have hcg : ∀ W, (eqlCs (.agg (enc v1).toArray) (.agg (enc v2).toArray)).run P W = .ok (.bool (eq v1 v2)) W := fun W => HC.out.1 W v1 v2
              have hcn : ∀ W, (neqCs (.agg (enc v1).toArray) (.agg (enc v2).toArray)).run P W = .ok (.bool (!eq v1 v2)) W := fun W => HC.out.2 W v1 v2
              have HV : Hid (dk[i + k2]! = v1 ∧ dk[i + mp]! = v2) := ⟨hv1, hv2⟩
              clear hHc hv1 hv2
              by_cases hlv : eq v1 v2 = true
              · simp only [hlv, Bool.not_true] at hcg hcn
                go_wp2_with fail
                go_quiet_grown (fail)
                go_wp2
                go_roundw
                case rel => exact ⟨kk, k2 + 1, dk, rfl, by go_num, by omega, by omega, HI.out.skip (stays_of (by omega) true (by
                  have e1 := HI.out.rest (i + k2) (by omega)
                  have e2 := HI.out.rest (i + mp) (by have := HMP.out; omega)
                  rw [show i + k2 - 1 = i + mp by have := HMP.out; omega, ← e1, ← e2, HV.out.1, HV.out.2]; exact hlv)), holdsK_grow enc k _ _ g off dk (by show g < wr.heap.size; omega) (show HoldsK enc k (wr.drewN nq) g off dk from HHk.out), hex.trans (exGrowK nq osq none (Nat.le_refl _)) hsz' (by simp)⟩
                case measure => simp [intOf]; omega
              · have hlv' : eq v1 v2 = false := by simpa using hlv
                simp only [hlv', Bool.not_false] at hcg hcn
                go_wp2_with fail
                go_quiet_grown (fail)
                obtain ⟨wq, hwq⟩ : ∃ wq : World, wq = grow (wr.drewN nq) osq := ⟨_, rfl⟩
                have hHq : HoldsK enc k wq g off dk := by rw [hwq]; exact holdsK_grow enc k _ _ g off dk (by show g < wr.heap.size; omega) (show HoldsK enc k (wr.drewN nq) g off dk from HHk.out)
                have hexq : Ex w.heap.size (some g) w wq := by rw [hwq]; exact hex.trans (exGrowK nq osq none (Nat.le_refl _)) hsz' (by simp)
                have lq : Sem.run P (loadCellsFrom ⟨g, off + i * k + k2 * k, none⟩ 0 k #[]) wq = .ok (enc v1).toArray wq := by rw [hwq]; exact l1 nq osq
                rw [← hwq]
                have sq : Sem.run P (storeCells ⟨g, off + kk * k, none⟩ (enc v1) 0) wq = .ok () (wq.setCells g (off + kk * k) (enc v1)) := stores_of_holds P hHq (kk * k) _ (by
                  rw [HK.out, size_flatK]
                  have := Nat.mul_le_mul_right k (show kk + 1 ≤ dk.size by have := HDZ.out; omega); rwa [Nat.add_mul, Nat.one_mul] at this) (H1.out _)
                have hsV : (enc v1).length = k := HK.out _
                have HQ := Lib.hid hHq
                have hszq := hexq.size
                clear l1 l2 hcg hcn hwq hHq
                obtain ⟨cV, hcV⟩ : ∃ c, c = enc v1 := ⟨_, rfl⟩
                rw [← hcV] at lq sq hsV
                have CC := Lib.hid hcV
                clear hcV
                have b7 : (kk : Int) < d.size := by omega
                go_wp2
                go_roundw
                case rel =>
                  have e1 := HI.out.rest (i + k2) (by omega)
                  have e2 := HI.out.rest (i + mp) (by have := HMP.out; omega)
                  have hk := HI.out.keep (stays_of (by omega) false (by
                    rw [show i + k2 - 1 = i + mp by have := HMP.out; omega, ← e1, ← e2, HV.out.1, HV.out.2]; exact hlv')) hlt2
                  rw [← e1, HV.out.1] at hk
                  refine ⟨kk + 1, k2 + 1, dk.setIfInBounds kk v1, by go_num, by go_num, by omega, by omega, hk, ?_, hexq.trans (ex_setCells wq g (off + kk * k) cV) hszq (fun q e _ => by cases e; rfl)⟩
                  rw [CC.out]
                  exact holdsK_set HK.out HQ.out kk v1 (by have := HDZ.out; omega)
                case measure => simp [intOf]; omega
            · obtain ⟨n, hn⟩ : ∃ n, n = d.size := ⟨_, rfl⟩
              have hend : i + k2 = d.size := by omega
              have hdz : dk.size = d.size := HDS.out
              have hcl : ∀ ty, (Builtin.clear_ #[45] ty #[.slice (some ⟨g, off + kk * k, none⟩) (d.size - kk) (cap - kk)]).run P wr = .ok (.tuple #[]) (wr.setCells g (off + kk * k) (Builtin.zeroCells z (d.size - kk)).toList) :=
                fun ty => runClearK wr _ _ ty (.agg z) k L.t4 HZ.out.1 HZ.out.2.1 HZ.out.2.2 g (off + kk * k) _ _ (by omega) (fun j hj => by
                  have := (HHk.out (kk * k + j) (by rw [size_flatK, hdz]; have := Nat.add_mul kk (d.size - kk) k; rw [show kk + (d.size - kk) = d.size by omega] at this; omega)).1
                  rw [Nat.add_assoc, this]; rfl) (fun j hj => by
                  have := (HHk.out (kk * k + j) (by rw [size_flatK, hdz]; have := Nat.add_mul kk (d.size - kk) k; rw [show kk + (d.size - kk) = d.size by omega] at this; omega)).2
                  rw [Nat.add_assoc]; exact this)
              have hexc := hex.trans (ex_setCells wr g (off + kk * k) (Builtin.zeroCells z (d.size - kk)).toList) hsz' (fun q e _ => by cases e; rfl)
              have hfin : HoldsK enc k (wr.setCells g (off + kk * k) (Builtin.zeroCells z (d.size - kk)).toList) g off (cpt eq d d.size).toArray := by
                have hI := HI.out
                rw [hend] at hI
                obtain ⟨h1, h2⟩ := hI.head (Nat.le_refl _)
                exact holdsK_behind (holdsK_first HHk.out h1 h2) _ _ (by simp [hI.len])
              have hlen : (cpt eq d d.size).length = kk := by have := HI.out.len; rwa [hend] at this
              have FIN := Lib.hid (And.intro hexc (And.intro hfin hlen))
              have b7 : (kk : Int) ≤ d.size := by omega
              have b8 : ¬ (k2 : Int) < (d.size : Int) - i := by omega
              have b9 : ¬ k2 < d.size - i := by omega
              have b10 : (kk : Int) ≤ cap := by omega
              have b11 : kk ≤ cap := by omega
              have b12 : kk ≤ d.size := by omega
              have b13 : ¬ cap = kk := by omega
              clear hexc hfin hlen hend hdz hn
              go_wp2
              go_ret
              exact ⟨by rw [FIN.out.2.2]; rfl, FIN.out.2.1, FIN.out.1⟩
        · have hlv' : eq v1 v2 = false := by simpa using hlv
          simp only [hlv', Bool.not_false] at hcg hcn
          go_wp2_with fail
          go_quiet_grown (fail)
          go_wp2
          go_roundw
          case rel => exact ⟨i + 1, by go_num, by omega, by omega, fun j hj => by
            by_cases e : j = i
            · subst e
              exact stays_of (by omega) false (by rw [← HIP.out, HV.out.1, HV.out.2]; exact hlv')
            · exact HA.out j (by omega), holdsK_grow enc k _ _ g off d (by show g < wr.heap.size; omega) (show HoldsK enc k (wr.drewN nq) g off d from HHk.out), hex.trans (exGrowK nq osq none (Nat.le_refl _)) hsz' (by simp)⟩
          case measure => simp [intOf]; omega
      · obtain rfl : i = d.size := by omega
        go_wp2
        go_ret
        obtain ⟨e1, e2⟩ := SAME.out wr HA.out HHk.out
        exact ⟨by rw [e1]; rfl, e2, hex⟩
end Go.Proofs.YtaihmldiglgipaaGreat

namespace Go.Proofs.YtaihmldiglgipaaGreat
open Go.RowKit

theorem tmod_neg {n m : Int} (hm : 1 ≤ m) (h : n.tmod m < 0) : n.tmod m + m = modI n m := by
  rw [modI_pos hm, Int.tmod_eq_emod]
  rw [Int.tmod_eq_emod] at h
  split at h <;> rename_i h' <;> simp only [h', ↓reduceIte] at h ⊢
  · have := Int.emod_nonneg n (show m ≠ 0 by omega); omega
  · have : (m.natAbs : Int) = m := by omega
    omega
theorem tmod_pos {n m : Int} (hm : 1 ≤ m) (h : ¬ n.tmod m < 0) : n.tmod m = modI n m := by
  rw [modI_pos hm, Int.tmod_eq_emod]
  rw [Int.tmod_eq_emod] at h
  have := Int.emod_lt_of_pos n (show 0 < m by omega)
  split at h <;> rename_i h' <;> simp only [h', ↓reduceIte] at h ⊢
  · simp
  · have : (m.natAbs : Int) = m := by omega
    omega
theorem tmod_bd {n m : Int} (hm : 1 ≤ m) : -m ≤ n.tmod m ∧ n.tmod m < m := by
  by_cases h : n.tmod m < 0
  · have := tmod_neg hm h; have := modI_bd (n := n) hm; omega
  · have := tmod_pos hm h; have := modI_bd (n := n) hm; omega

set_option maxHeartbeats 400000 in
theorem mod_any (n m : Int) (w : World) (hm : m ≤ 4611686018427387904) :
    Calls Tryz.prog 39 #[.int .i64 n, .int .i64 m] w fun e w' => e = .returned (.int .i64 (modI n m)) ∧ w = w' := by
  by_cases h1 : m < 1
  · go_enter Tryz.func39, Tryz.ntmps39
    go_wp2
    go_ret
    exact ⟨ret_int (by unfold modI; rw [if_pos h1]), rfl⟩
  · obtain ⟨b1, b2⟩ := tmod_bd (n := n) (show 1 ≤ m by omega)
    by_cases h2 : n.tmod m < 0
    · have H := Lib.hid (tmod_neg (show 1 ≤ m by omega) h2)
      go_enter Tryz.func39, Tryz.ntmps39
      go_wp2
      go_ret
      exact ⟨ret_int H.out, rfl⟩
    · have H := Lib.hid (tmod_pos (show 1 ≤ m by omega) h2)
      go_enter Tryz.func39, Tryz.ntmps39
      go_wp2
      go_ret
      exact ⟨ret_int H.out, rfl⟩

end Go.Proofs.YtaihmldiglgipaaGreat

namespace Go.Proofs.YtaihmldiglgipaaGreat
open Go.RowKit

/-- Block p is a Dice whose numbers that are left are d; it and its list lie below block N. -/
def DiceAt (N : Nat) (w : World) (p : Nat) (d : List Int) : Prop :=
  ∃ (L : List Int) (at' : Nat) (ao : Option Addr) (cap : Nat), w.heap[p]? = some (.cells #[.slice ao L.length cap, .int .i64 at'] 79 (0, 0)) ∧ at' ≤ L.length ∧ d = L.drop at' ∧ L.length ≤ 1000000 ∧ IntsAt w ao L ∧ (L ≠ [] → ∀ a, ao = some a → a.block < N ∧ a.block ≠ p) ∧ p < N

theorem DiceAt.keep {N : Nat} {w w' : World} {p B : Nat} {d : List Int} (h : DiceAt N w p d) (hx : Ex B none w w') (hB : N ≤ B) : DiceAt N w' p d := by
  obtain ⟨L, at', ao, cap, h1, h2, h3, h4, h5, h6, h7⟩ := h
  refine ⟨L, at', ao, cap, ?_, h2, h3, h4, fun j hj => ?_, h6, h7⟩
  · rw [hx.block p (by omega) (by simp)]
    exact h1
  · obtain ⟨b, off, e, hc⟩ := h5 j hj
    refine ⟨b, off, e, fun i hi => ?_⟩
    have hbN : b < N := (h6 (by intro h; simp [h] at hj) _ e).1
    exact (World.cell?_of_block (w := w) (hx.block b (by omega) (by simp))).trans (hc i hi)
theorem DiceAt.lt {N : Nat} {w : World} {p : Nat} {d : List Int} (h : DiceAt N w p d) : p < N := by
  obtain ⟨L, at', ao, cap, _, _, _, _, _, _, h7⟩ := h
  exact h7

theorem cell_at {w : World} {b o : Nat} {cs : Array Value} {e : TypeId} {fr : Nat × Nat} {v : Value} (h : w.heap[b]? = some (.cells cs e fr)) (hv : cs[o]? = some v) : w.cell? ⟨b, o, none⟩ = some v := by
  simp [World.cell?, h, hv]
theorem free_at {w : World} {b o : Nat} {cs : Array Value} {e : TypeId} (h : w.heap[b]? = some (.cells cs e (0, 0))) : w.frozen? ⟨b, o, none⟩ = false := by
  simp [World.frozen?, h]
/-- A block of literals that the call has just laid owns them. -/
theorem own_lit {base : Nat} (w : World) (hb : base ≤ w.heap.size) (xs : List Int) (n : Nat) (hn : xs.length = n) (hm : n ≤ maxLen) (hx : 0 < n) : OwnI (w.alloc (.cells (xs.map (Value.int .i64)).toArray 3)) base (some ⟨w.heap.size, 0, none⟩) n xs := by
  subst hn
  refine ⟨by simp, .inr ⟨w.heap.size, xs.length, _, rfl, hb, heap_alloc_new w _, Nat.le_refl _, hm, by simp, ?_⟩⟩
  rw [List.take_of_length_le (by simp)]
theorem own_lit1 {base : Nat} (w : World) (hb : base ≤ w.heap.size) (x : Int) : OwnI (w.alloc (.cells #[.int .i64 x] 3)) base (some ⟨w.heap.size, 0, none⟩) 1 [x] := own_lit w hb [x] 1 rfl (by decide) (by decide)

theorem heap_setCell {w : World} {b o : Nat} {cs : Array Value} {e : TypeId} {fr : Nat × Nat} (h : w.heap[b]? = some (.cells cs e fr)) (v : Value) : (w.setCell ⟨b, o, none⟩ v).heap[b]? = some (.cells (cs.setIfInBounds o v) e fr) := by
  simp [World.setCell, Array.getElem?_modify, h]

set_option maxHeartbeats 400000 in
theorem next_any (N p : Nat) (d : List Int) (n : Int) (w : World) (hd : DiceAt N w p d) (hn : n ≤ 4611686018427387904) :
    Calls Tryz.prog 13 #[.pointer (some ⟨p, 0, none⟩), .int .i64 n] w fun e w' => e = .returned (.int .i64 (dVal d n)) ∧ DiceAt N w' p d.tail ∧ Ex w.heap.size (some p) w w' := by
  obtain ⟨L, k, ao, cap, hh, hk, hdl, hL, hx, haw, hpN⟩ := hd
  have c0 := cell_at (o := 0) hh rfl
  have c1 := cell_at (o := 1) hh rfl
  have f1 := free_at (o := 1) hh
  by_cases hlt : k < L.length
  · obtain ⟨b, off, y, rfl, hck, HY⟩ := hx.get k hlt
    have hbp : b ≠ p := (haw (by intro h; simp [h] at hlt) _ rfl).2
    have HA := Lib.hid haw
    have hdd : d = y :: L.drop (k + 1) := by
      rw [hdl, List.drop_eq_getElem_cons hlt, ← HY.out]; simp [List.getD, hlt]
    have HD := Lib.hid hdd
    have HH := Lib.hid hh
    have HX := Lib.hid hx
    clear hdd hdl hh hx haw
    have hbp2 : p ≠ b := fun h => hbp h.symm
    go_enter Tryz.func13, Tryz.ntmps13
    go_wp2
    go_quiet (fail)
    go_wp2
    go_quiet ((go_at_call 39; exact Calls.quiet_of_same ((mod_any _ _ _ hn).mono fun _ _ h => ⟨h.1, h.2.symm⟩)))
    go_wp2
    go_ret
    refine ⟨by rw [HD.out]; rfl, ?_, (((Ex.refl _ _ _).drewN).setCell _ _ _ (Or.inl rfl)).drewN⟩
    refine ⟨L, k + 1, some ⟨b, off, none⟩, cap, ?_, by omega, by rw [HD.out]; rfl, hL, fun j hj => ?_, HA.out, hpN⟩
    · exact (heap_setCell (w := w) (o := 1) HH.out (.int .i64 ((k : Int) + 1))).trans (by simp)
    · obtain ⟨b', off', e, hc⟩ := HX.out j hj
      refine ⟨b', off', e, fun i hi => ?_⟩
      cases e
      exact (World.cell?_setCell_other (w := w) _ _ _ (by simp)).trans (hc i hi)
  · have hd0 : d = [] := by rw [hdl, List.drop_eq_nil_of_le (by omega)]
    have hge : L.length ≤ k := by omega
    have HH : DiceAt N w p [] := ⟨L, k, ao, cap, hh, hk, by rw [List.drop_eq_nil_of_le (by omega)], hL, hx, haw, hpN⟩
    have HH := Lib.hid HH
    subst hd0
    clear hdl hh hx haw
    go_enter Tryz.func13, Tryz.ntmps13
    go_wp2
    go_quiet (fail)
    go_wp2
    go_ret
    exact ⟨rfl, HH.out, (Ex.refl _ _ _).drewN⟩

set_option maxHeartbeats 400000 in
theorem madeRoll_any (v1 : Value) (L : List Int) (w : World) (hv1 : Ints w v1 L) (hL : L.length ≤ 1000000) :
    Calls Tryz.prog 24 #[v1] w fun e w' => ∃ p, e = .returned (.pointer (some ⟨p, 0, none⟩)) ∧ DiceAt (p + 1) w' p L ∧ w.heap.size ≤ p ∧ p + 1 ≤ w'.heap.size ∧ Ex w.heap.size none w w' := by
  obtain ⟨ao, cap, rfl, hx⟩ := hv1
  have HX := Lib.hid hx
  clear hx
  go_enter Tryz.func24, Tryz.ntmps24
  go_wp2
  go_ret
  exact ⟨_, rfl, ⟨L, 0, ao, cap, heap_alloc_new w _, Nat.zero_le _, rfl, hL, HX.out.keep (Ex.new w _) (Nat.le_refl _) (by simp), fun hne a ha => by have := HX.out.lt hne a ha; omega, by omega⟩, Nat.le_refl _, by simp, Ex.new w _⟩

end Go.Proofs.YtaihmldiglgipaaGreat

namespace Go.Proofs.YtaihmldiglgipaaGreat
open Go.RowKit

set_option maxHeartbeats 400000 in
theorem one_any (N p : Nat) (d : List Int) (n : Int) (w : World) (hd : DiceAt N w p d) (h1 : 1 ≤ n) (hn : n ≤ 4611686018427387904) :
    Calls Tryz.prog 14 #[.pointer (some ⟨p, 0, none⟩), .int .i64 n] w fun e w' => e = .returned (.bool (dVal d n == n - 1)) ∧ DiceAt N w' p d.tail ∧ Ex w.heap.size (some p) w w' := by
  go_enter Tryz.func14, Tryz.ntmps14
  go_wp2_with fail
  refine (next_any N p d n w hd hn).mono ?_
  rintro e w1 ⟨rfl, hd1, hex1⟩
  go_wp2
  go_ret
  exact ⟨rfl, hd1, hex1⟩
end Go.Proofs.YtaihmldiglgipaaGreat

namespace Go.Proofs.YtaihmldiglgipaaGreat
open Go.RowKit Go.Sort

theorem row_frozen_g {w : World} {g i : Nat} {cs : Array Value} {t : TypeId} (h : w.heap[g]? = some (.cells cs t (0, 0))) : w.frozen? ⟨g, i, none⟩ = false := by
  unfold World.frozen?
  dsimp only
  rw [h]
  simp
end Go.Proofs.YtaihmldiglgipaaGreat

namespace Go.Proofs.YtaihmldiglgipaaGreat
open Go.RowKit Go.Sort
section
variable {P : Program} {md : Region.Mode} {ops : Array Oper} {C : World → Prop}

/-- The head's operations in whatever order that is let, each quiet in the class; L behind so many of them. -/
def headQ (P : Program) (md : Region.Mode) (ops : Array Oper) (C : World → Prop) (n : Nat) (L : Array Bool → Act → Prop) : Nat → Array Bool → Act → Prop
  | 0, ls, a => L ls a
  | m + 1, ls, a => Region.ready md ops ls ≠ [] ∧ ∀ i, i ∈ Region.ready md ops ls → i < n ∧ qOp P ops C i (headQ P md ops C n L m (ls.setIfInBounds i true)) a

/-- The head in the text's order; E is asked of what is listed behind it. -/
def lexHeadE (md : Region.Mode) (ops : Array Oper) (E : Array Bool → Bool) : Nat → Nat → Array Bool → Bool
  | 0, _, ls => E ls
  | m + 1, k, ls => (Region.ready md ops ls).contains k && Region.free md ops ls k && lexHeadE md ops E m (k + 1) (ls.setIfInBounds k true)
/-- Operation t waits for all of the first n. -/
def sinkT (md : Region.Mode) (ops : Array Oper) (n t : Nat) : Bool :=
  (List.range n).all fun i => Region.waitsFor md ops t i || (List.range n).any fun j => decide (i < j) && Region.waitsFor md ops j i
theorem sinkT_waits {n t : Nat} {ls : Array Bool} (h : sinkT md ops n t = true) (inv : HeadInv md ops n ls) (hn : n ≤ ops.size) : ∀ (d i : Nat), n - i = d → i < n → ls.getD i true = false → t ∉ Region.ready md ops ls := by
  intro d
  induction d using Nat.strongRecOn with
  | _ d ih =>
    intro i hd hi hun hr
    obtain ⟨_, ot, hot, hall⟩ := mem_ready.1 hr
    have key : ∀ j, Region.waitsFor md ops j i = true → ∀ o, ops[j]? = some o → (∀ e ∈ o.after, Region.binds md e = true → ls.getD e.on false = true) → False := fun j hj o ho hlo => by
      obtain ⟨o', ho', e, he, hb, hon⟩ := Region.waitsFor_spec hj
      have : o' = o := Option.some.inj (ho'.symm.trans ho)
      subst this
      have h2 := hlo e he hb
      rw [hon, getD_both hun] at h2
      cases h2
    have h1 := List.all_eq_true.1 h i (List.mem_range.2 hi)
    simp only [Bool.or_eq_true] at h1
    rcases h1 with h1 | h1
    · exact key t h1 ot hot hall
    · obtain ⟨j, hj, hj2⟩ := List.any_eq_true.1 h1
      simp only [Bool.and_eq_true, decide_eq_true_eq] at hj2
      have hjn := List.mem_range.1 hj
      obtain ⟨oj, hoj, _⟩ := Region.waitsFor_spec hj2.2
      cases hl : ls.getD j false with
      | true => exact key j hj2.2 oj hoj (inv.closed j oj hoj hl)
      | false =>
        have hjs : j < ls.size := by rw [inv.size]; omega
        exact ih (n - j) (by omega) j rfl hjn (getD_in hjs hl) hr

/-- Two operations are left, in whatever order. -/
def twoB (md : Region.Mode) (ops : Array Oper) (n : Nat) (ls : Array Bool) : Bool :=
  decide (Region.ready md ops ls = [n, n + 1]) && decide (Region.ready md ops (ls.setIfInBounds n true) = [n + 1]) && decide (Region.ready md ops (ls.setIfInBounds (n + 1) true) = [n]) &&
  decide (Region.ready md ops ((ls.setIfInBounds n true).setIfInBounds (n + 1) true) = []) && decide (Region.ready md ops ((ls.setIfInBounds (n + 1) true).setIfInBounds n true) = [])
/-- Three operations are left: n, n + 1 in whatever order, n + 2 behind n. -/
def threeB (md : Region.Mode) (ops : Array Oper) (n : Nat) (ls : Array Bool) : Bool :=
  decide (Region.ready md ops ls = [n, n + 1]) && twoB md ops (n + 1) (ls.setIfInBounds n true) && decide (Region.ready md ops (ls.setIfInBounds (n + 1) true) = [n]) &&
  decide (Region.ready md ops ((ls.setIfInBounds (n + 1) true).setIfInBounds n true) = [n + 2]) && decide (Region.ready md ops (((ls.setIfInBounds (n + 1) true).setIfInBounds n true).setIfInBounds (n + 2) true) = [])
end
end Go.Proofs.YtaihmldiglgipaaGreat

namespace Go.Proofs.YtaihmldiglgipaaGreat
open Go.RowKit Go.Sort

theorem countP_one {p q : Nat → Bool} {i : Nat} (hp : p i = true) (hq : q i = false) (he : ∀ j, j ≠ i → q j = p j) : ∀ n, i < n → (List.range n).countP q + 1 = (List.range n).countP p := by
  have low : ∀ n, n ≤ i → (List.range n).countP q = (List.range n).countP p := by
    intro n
    induction n with
    | zero => intro _; rfl
    | succ n ih =>
      intro h
      rw [List.range_succ, List.countP_append, List.countP_append, ih (by omega)]
      simp only [List.countP_cons, List.countP_nil, he n (by omega)]
  intro n
  induction n with
  | zero => intro h; omega
  | succ n ih =>
    intro h
    rw [List.range_succ, List.countP_append, List.countP_append]
    simp only [List.countP_cons, List.countP_nil]
    by_cases e : n = i
    · subst e
      rw [low n (Nat.le_refl _), hp, hq]
      simp
    · have h1 := ih (by omega)
      rw [he n e]
      omega
section
variable {P : Program} {md : Region.Mode} {ops : Array Oper} {Q : Exit → Act → World → Prop}

/-- What is known where an operation's turn has come: the facts of all that it waits for. -/
def Known (md : Region.Mode) (n : Nat) (d : Nat → Nat) (φ : Nat → Value → World → Prop) (o : Oper) (a : Act) (w : World) : Prop := ∀ e ∈ o.after, Region.binds md e = true → e.on < n → φ e.on (a.eval (.tmp (d e.on))) w
/-- The frame but for the slots that the head writes. -/
def Rim (n : Nat) (d : Nat → Nat) (a0 a : Act) : Prop := (∀ k, (∀ j, j < n → d j ≠ k) → a.tmps[k]? = a0.tmps[k]?) ∧ a.tmps.size = a0.tmps.size ∧ a.defers = a0.defers
theorem eval_put_ne {a : Act} {k j : Nat} {v : Value} (h : j ≠ k) : (a.put (some j) v).eval (.tmp k) = a.eval (.tmp k) := by
  simp only [Act.eval, Act.put, Array.getD_eq_getD_getElem?]
  rw [Array.getElem?_setIfInBounds_ne h]
theorem eval_put_eq {a : Act} {k : Nat} {v : Value} (h : k < a.tmps.size) : (a.put (some k) v).eval (.tmp k) = v := by
  simp only [Act.eval, Act.put, Array.getD_eq_getD_getElem?]
  rw [Array.getElem?_setIfInBounds_self_of_lt h]
  rfl
theorem Rim.put {n : Nat} {d : Nat → Nat} {a0 a : Act} {i : Nat} {v : Value} (h : Rim n d a0 a) (hi : i < n) : Rim n d a0 (a.put (some (d i)) v) := by
  refine ⟨fun k hk => ?_, ?_, h.2.2⟩
  · show (a.tmps.setIfInBounds (d i) v)[k]? = _
    rw [Array.getElem?_setIfInBounds_ne (hk i hi)]
    exact h.1 k hk
  · show (a.tmps.setIfInBounds (d i) v).size = _
    rw [Array.size_setIfInBounds]; exact h.2.1

theorem rg_any {n g : Nat} {d : Nat → Nat} {φ : Nat → Value → World → Prop} {R : World → World → Prop} {a0 : Act} {w0 : World}
    (hRt : ∀ a b c, R a b → R b c → R a c) (hφ : ∀ i v w w', φ i v w → R w w' → φ i v w')
    (hd : ∀ i, i < n → ∃ o, ops[i]? = some o ∧ o.dst = some (d i) ∧ o.guard = none ∧ d i < a0.tmps.size ∧ ∀ e ∈ o.after, e.on < i)
    (hinj : ∀ i j, i < n → j < n → d i = d j → i = j)
    (htw : ∀ ls, HeadInv md ops n ls → ∀ i, i < n → ls.getD i true = false → ∀ t, n ≤ t → t ∉ Region.ready md ops ls)
    (hstep : ∀ i, i < n → ∀ o, ops[i]? = some o → ∀ (a : Act) (w : World), R w0 w → Rim n d a0 a → Known md n d φ o a w → ∀ K : Act → World → Prop, (∀ v w', R w w' → φ i v w' → K (a.put o.dst v) w') → o.wp P a w K Q)
    (hend : ∀ ls a w, HeadInv md ops n ls → (∀ i, i < n → ls.getD i true = true) → R w0 w → Rim n d a0 a → (∀ i, i < n → φ i (a.eval (.tmp (d i))) w) → wpAny P md ops Q g ls a w) (hn : n ≤ ops.size) :
    ∀ (m : Nat) (ls : Array Bool) (a : Act) (w : World), (List.range n).countP (fun i => !ls.getD i true) = m → HeadInv md ops n ls → R w0 w → Rim n d a0 a → (∀ i, i < n → ls.getD i true = true → φ i (a.eval (.tmp (d i))) w) → wpAny P md ops Q (m + g) ls a w := by
  intro m
  induction m with
  | zero =>
    intro ls a w hc inv hR hF hI
    have hall : ∀ i, i < n → ls.getD i true = true := fun i hi => by
      have h := List.countP_eq_zero.1 hc i (List.mem_range.2 hi)
      simpa using h
    rw [Nat.zero_add]
    exact hend ls a w inv hall hR hF fun i hi => hI i hi (hall i hi)
  | succ m ih =>
    intro ls a w hc inv hR hF hI
    have hsz : n ≤ ls.size := by rw [inv.size]; exact hn
    -- one of the head is left, and the first that is left may come up
    have hex : ∃ i, i < n ∧ ls.getD i true = false := by
      apply Classical.byContradiction
      intro hno
      have : (List.range n).countP (fun i => !ls.getD i true) = 0 := List.countP_eq_zero.2 fun i hi => by
        have hi' := List.mem_range.1 hi
        cases hb : ls.getD i true with
        | true => simp
        | false => exact absurd ⟨i, hi', hb⟩ hno
      omega
    have hmin : ∀ k i, i ≤ k → i < n → ls.getD i true = false → ∃ j, j ∈ Region.ready md ops ls := by
      intro k
      induction k with
      | zero =>
        intro i hi hin hb
        obtain rfl : i = 0 := by omega
        obtain ⟨o, ho, _, _, _, hlt⟩ := hd 0 hin
        exact ⟨0, mem_ready.2 ⟨hb, o, ho, fun e he _ => by have := hlt e he; omega⟩⟩
      | succ k ihk =>
        intro i hi hin hb
        obtain ⟨o, ho, _, _, _, hlt⟩ := hd i hin
        by_cases hq : ∃ e ∈ o.after, Region.binds md e = true ∧ ls.getD e.on false = false
        · obtain ⟨e, he, _, hbe⟩ := hq
          have h1 := hlt e he
          exact ihk e.on (by omega) (by omega) (getD_in (by omega) hbe)
        · exact ⟨i, mem_ready.2 ⟨hb, o, ho, fun e he hbi => by
            cases hbe : ls.getD e.on false with
            | true => rfl
            | false => exact absurd ⟨e, he, hbi, hbe⟩ hq⟩⟩
    have e : m + 1 + g = m + g + 1 := by omega
    rw [e]
    refine ⟨fun z => ?_, fun i hi => ?_⟩
    · obtain ⟨i, hin, hb⟩ := hex
      obtain ⟨j, hj⟩ := hmin i i (Nat.le_refl _) hin hb
      rw [z] at hj; cases hj
    · have hin : i < n := Classical.byContradiction fun c => by
        obtain ⟨k, hk, hb⟩ := hex
        exact htw ls inv k hk hb i (Nat.le_of_not_lt c) hi
      obtain ⟨hun, o', ho', hall⟩ := mem_ready.1 hi
      obtain ⟨o, ho, hdst, hgd, hlt, _⟩ := hd i hin
      have : o' = o := Option.some.inj (ho'.symm.trans ho)
      subst this
      have inv' := inv.set hi hin
      unfold wpOp
      simp only [ho]
      rw [if_pos (show Region.wanted o' (yielded ops a.tmps) = true by simp [Region.wanted, hgd])]
      refine .inl (hstep i hin o' ho a w hR hF (fun e he hb hen => hI e.on hen ?_) _ fun v w' hRw hφi => ?_)
      · have := hall e he hb
        cases hx : ls.getD e.on true with
        | true => rfl
        | false => rw [getD_both hx] at this; cases this
      · rw [hdst]
        refine ih _ _ _ ?_ inv' (hRt _ _ _ hR hRw) (hF.put hin) fun j hj hl => ?_
        · have h1 := countP_one (p := fun i => !ls.getD i true) (q := fun j => !(ls.setIfInBounds i true).getD j true) (i := i) (by simp [hun]) (by
            simp only [Array.getD_eq_getD_getElem?]
            rw [Array.getElem?_setIfInBounds_self_of_lt (by omega)]; rfl) (fun j hj => by rw [getD_set_ne true (Ne.symm hj)]) n hin
          omega
        · by_cases c : j = i
          · subst c
            rw [eval_put_eq (by rw [hF.2.1]; exact hlt)]
            exact hφi
          · rw [eval_put_ne (fun h => c (hinj i j hin hj h).symm)]
            rw [getD_set_ne true (Ne.symm c)] at hl
            exact hφ _ _ _ _ (hI j hj hl) hRw
end
/-- The slot that an operation writes. -/
def dstOf (l : List Oper) (i : Nat) : Nat := ((l[i]?).bind (·.dst)).getD 0
/-- The first n operations write slots of their own, hang on no guard and wait for earlier ones alone; the others wait for all of them. -/
def rgB (l : List Oper) (n N : Nat) : Bool :=
  decide (n ≤ l.length) && (List.range n).all (fun i => match l[i]? with
    | some o => o.dst.isSome && o.guard.isNone && decide (dstOf l i < N) && o.after.all (fun e => decide (e.on < i)) && (List.range n).all (fun j => decide (i = j) || !decide (dstOf l i = dstOf l j))
    | none => false) && (List.range (l.length - n)).all (fun t => sinkT .any l.toArray n (n + t))
theorem rim_refl (n : Nat) (d : Nat → Nat) (a : Act) : Rim n d a a := ⟨fun _ _ => rfl, rfl, rfl⟩
theorem Rim.eval {n : Nat} {d : Nat → Nat} {a0 a : Act} (h : Rim n d a0 a) (k : Nat) (hk : ∀ j, j < n → d j ≠ k) : a.eval (.tmp k) = a0.eval (.tmp k) := by
  simp only [Act.eval, Array.getD_eq_getD_getElem?]
  rw [h.1 k hk]
theorem act_eta (a : Act) : a = ⟨((List.range a.tmps.size).map fun k => a.eval (.tmp k)).toArray, a.defers⟩ := by
  obtain ⟨t, df⟩ := a
  congr 1
  apply Array.ext
  · simp
  · intro i h1 h2
    simp [Act.eval, Array.getD_eq_getD_getElem?, h1]
theorem list_eq_halves {ls : Array Bool} {n g : Nat} (hs : ls.size = n + g) (h1 : ∀ i, i < n → ls.getD i true = true) (h2 : ∀ t, n ≤ t → t < n + g → ls.getD t true = false) : ls = (List.replicate n true ++ List.replicate g false).toArray := by
  apply Array.ext
  · simp [hs]
  · intro i hi hi2
    simp only [List.getElem_toArray]
    by_cases c : i < n
    · rw [List.getElem_append_left (by simpa using c)]
      have := h1 i c
      simp only [Array.getD_eq_getD_getElem?, Array.getElem?_eq_getElem hi, Option.getD_some] at this
      simpa using this
    · rw [List.getElem_append_right (by simpa using Nat.le_of_not_lt c)]
      have := h2 i (by omega) (by omega)
      simp only [Array.getD_eq_getD_getElem?, Array.getElem?_eq_getElem hi, Option.getD_some] at this
      simpa using this
/-- The law: the first n operations in whatever order, each by what it establishes; then the others. -/
theorem wp_region_rg {P : Program} {id : Nat} {l : List Oper} {Q : Exit → Act → World → Prop} {a : Act} {w : World} (n N : Nat) (φ : Nat → Value → World → Prop) (R : World → World → Prop)
    (hm : P.follows .mixedOrders = true) (hB : rgB l n N = true) (hN : a.tmps.size = N) (hR0 : R w.drew w.drew) (hRt : ∀ a b c, R a b → R b c → R a c) (hφ : ∀ i v w w', φ i v w → R w w' → φ i v w')
    (hstep : ∀ i, i < n → ∀ o, l[i]? = some o → ∀ (a' : Act) (w' : World), R w.drew w' → Rim n (dstOf l) a a' → Known .any n (dstOf l) φ o a' w' → ∀ K : Act → World → Prop, (∀ v w'', R w' w'' → φ i v w'' → K (a'.put o.dst v) w'') → o.wp P a' w' K Q)
    (hend : ∀ a' w', R w.drew w' → Rim n (dstOf l) a a' → (∀ i, i < n → φ i (a'.eval (.tmp (dstOf l i))) w') → wpAny P .any l.toArray Q (l.length - n) (List.replicate n true ++ List.replicate (l.length - n) false).toArray a' w') : (Code.region id l.toArray true).wp P Q a w := by
  simp only [rgB, Bool.and_eq_true, decide_eq_true_eq] at hB
  obtain ⟨⟨hn, h1⟩, h2⟩ := hB
  have hd : ∀ i, i < n → ∃ o, l.toArray[i]? = some o ∧ o.dst = some (dstOf l i) ∧ o.guard = none ∧ dstOf l i < a.tmps.size ∧ ∀ e ∈ o.after, e.on < i := fun i hi => by
    have h := List.all_eq_true.1 h1 i (List.mem_range.2 hi)
    cases ho : l[i]? with
    | none => rw [ho] at h; cases h
    | some o =>
      rw [ho] at h
      simp only [Bool.and_eq_true, decide_eq_true_eq] at h
      obtain ⟨⟨⟨⟨a1, a2⟩, a3⟩, a4⟩, _⟩ := h
      refine ⟨o, by simpa using ho, ?_, Option.isNone_iff_eq_none.1 a2, by omega, fun e he => by simpa using Array.all_eq_true_iff_forall_mem.1 a4 e he⟩
      unfold dstOf
      rw [ho]
      cases hx : o.dst with
      | none => rw [hx] at a1; cases a1
      | some k => simp [hx]
  have hinj : ∀ i j, i < n → j < n → dstOf l i = dstOf l j → i = j := fun i j hi hj he => by
    have h := List.all_eq_true.1 h1 i (List.mem_range.2 hi)
    cases ho : l[i]? with
    | none => rw [ho] at h; cases h
    | some o =>
      rw [ho] at h
      simp only [Bool.and_eq_true, decide_eq_true_eq] at h
      have k := List.all_eq_true.1 h.2 j (List.mem_range.2 hj)
      simp only [Bool.or_eq_true, decide_eq_true_eq, Bool.not_eq_true', decide_eq_false_iff_not] at k
      rcases k with k | k
      · exact k
      · exact absurd he k
  have inv : HeadInv .any l.toArray n (Array.replicate l.toArray.size false) :=
    ⟨by simp, fun j u _ hl => (by rw [getD_replicate_false] at hl; cases hl), fun t _ htt => getD_in (by simpa using htt) (getD_replicate_false _ _)⟩
  refine wp_region_any hm ?_
  have K := rg_any (P := P) (md := .any) (ops := l.toArray) (Q := Q) (n := n) (g := l.length - n) (d := dstOf l) (φ := φ) (R := R) (a0 := a) (w0 := w.drew) hRt hφ hd hinj (fun ls hi i hin hun t htt hr => by
    have htl : t < l.length := by
      obtain ⟨_, ot, hot, _⟩ := mem_ready.1 hr
      have := (Array.getElem?_eq_some_iff.1 hot).1
      simpa using this
    have hs := List.all_eq_true.1 h2 (t - n) (List.mem_range.2 (by omega))
    rw [show n + (t - n) = t by omega] at hs
    exact sinkT_waits hs hi (by simpa using hn) _ i rfl hin hun hr) (fun i hi o ho => hstep i hi o (by simpa using ho)) (fun ls a' w' hi hall hR hF hI => by
    have e := list_eq_halves (ls := ls) (n := n) (g := l.length - n) (by rw [hi.size]; simp; omega) hall (fun t ht1 ht2 => hi.tail t ht1 (by simp; omega))
    rw [e]
    exact hend a' w' hR hF hI) (by simpa using hn) n (Array.replicate l.toArray.size false) a w.drew (by
      have : ∀ m, m ≤ l.length → (List.range m).countP (fun i => !(Array.replicate l.toArray.size false).getD i true) = m := by
        intro m
        induction m with
        | zero => intro _; rfl
        | succ m ih =>
          intro h
          rw [List.range_succ, List.countP_append, ih (by omega)]
          have : (Array.replicate l.toArray.size false).getD m true = false := getD_in (by simp; omega) (getD_replicate_false _ _)
          simp only [List.countP_cons, List.countP_nil, this]
          rfl
      exact this n hn) inv hR0 (rim_refl _ _ _) (fun i hi hl => by
        have : (Array.replicate l.toArray.size false).getD i true = false := getD_in (by simp; omega) (getD_replicate_false _ _)
        rw [this] at hl; cases hl)
  rw [show n + (l.length - n) = l.length by omega] at K
  exact K
end Go.Proofs.YtaihmldiglgipaaGreat

namespace Go.Proofs.YtaihmldiglgipaaGreat
open Go.RowKit Go.Sort

/-- What is said of a value in a world, and stays said in all that grow from it. -/
structure Fact where
  p : Value → World → Prop
  keep : ∀ {v w w'}, p v w → Ex w.heap.size none w w' → p v w'
/-- The value is this one. -/
def Fact.is (u : Value) : Fact := ⟨fun v _ => v = u, fun h _ => h⟩
def Fact.any : Fact := ⟨fun _ _ => True, fun h _ => h⟩
/-- A pointer to a new block with these cells. -/
def Fact.box (base : Nat) (cs : Array Value) (t : TypeId) : Fact := ⟨fun v w => ∃ b, v = .pointer (some ⟨b, 0, none⟩) ∧ base ≤ b ∧ w.heap[b]? = some (.cells cs t (0, 0)), fun ⟨b, h1, h2, h3⟩ hx => ⟨b, h1, h2, (hx.block b (Array.getElem?_eq_some_iff.1 h3).1 (by simp)).trans h3⟩⟩
/-- An empty slice of a new block. -/
def Fact.emp (base : Nat) (t : TypeId) : Fact := ⟨fun v w => ∃ b, v = .slice (some ⟨b, 0, none⟩) 0 0 ∧ base ≤ b ∧ w.heap[b]? = some (.cells #[] t (0, 0)), fun ⟨b, h1, h2, h3⟩ hx => ⟨b, h1, h2, (hx.block b (Array.getElem?_eq_some_iff.1 h3).1 (by simp)).trans h3⟩⟩
/-- A slice that reads as xs, above a block. -/
def Fact.sl {α : Type} (r : Rep α) (hk : 0 < r.k) (base n : Nat) (xs : List α) : Fact := ⟨fun v w => ∃ ao ac, v = .slice ao n ac ∧ Sl r (fun b => base ≤ b) w (.slice ao n ac) xs, fun ⟨ao, ac, h1, h2⟩ hx => ⟨ao, ac, h1, h2.keep hk fun b _ hb => hx.block b hb (by simp)⟩⟩
/-- A value of which something is said that stays. -/
def factOf (fs : List Fact) (i : Nat) : Fact := (fs[i]?).getD Fact.any
/-- How an operation's step is shown. -/
def StepOK (P : Program) (Q : Exit → Act → World → Prop) (l : List Oper) (fs : List Fact) (a : Act) (w : World) (i : Nat) (o : Oper) : Prop :=
  ∀ (a' : Act) (w' : World), Ex w.heap.size none w w' → Rim fs.length (dstOf l) a a' → Known .any fs.length (dstOf l) (fun i => (factOf fs i).p) o a' w' → ∀ K : Act → World → Prop, (∀ v w'', Ex w'.heap.size none w' w'' → (factOf fs i).p v w'' → K (a'.put o.dst v) w'') → o.wp P a' w' K Q
theorem wp_value {P : Program} {o : Oper} {a : Act} {w w' : World} {v : Value} {K : Act → World → Prop} {Q : Exit → Act → World → Prop} (h : (execOp a.eval o).run P w = .ok (.value v) w') (hK : K (a.put o.dst v) w') : o.wp P a w K Q := by
  unfold Oper.wp
  rw [h]
  exact hK
theorem Rim.evalB {n : Nat} {d : Nat → Nat} {a0 a : Act} (h : Rim n d a0 a) (k : Nat) (hk : (List.range n).all (fun j => !decide (d j = k)) = true) : a.eval (.tmp k) = a0.eval (.tmp k) := h.eval k fun j hj => by
  have := List.all_eq_true.1 hk j (List.mem_range.2 hj)
  simpa using this
/-- The law, with facts as a list: the head in whatever order, then the others. -/
theorem wp_region_facts {P : Program} {id : Nat} {l : List Oper} {Q : Exit → Act → World → Prop} {a : Act} {w : World} (N : Nat) (fs : List Fact) (hm : P.follows .mixedOrders = true) (hB : rgB l fs.length N = true) (hN : a.tmps.size = N)
    (hstep : ∀ i, i < fs.length → ∀ o, l[i]? = some o → StepOK P Q l fs a w i o)
    (hend : ∀ a' w', Ex w.heap.size none w w' → Rim fs.length (dstOf l) a a' → (∀ i, i < fs.length → (factOf fs i).p (a'.eval (.tmp (dstOf l i))) w') → wpAny P .any l.toArray Q (l.length - fs.length) (List.replicate fs.length true ++ List.replicate (l.length - fs.length) false).toArray a' w') : (Code.region id l.toArray true).wp P Q a w :=
  wp_region_rg fs.length N (fun i => (factOf fs i).p) (fun x y => Ex x.heap.size none x y) hm hB hN (Ex.refl _ _ _) (fun _ _ _ h k => h.trans k h.size (by simp)) (fun i _ _ _ h hx => (factOf fs i).keep h hx)
    (fun i hi o ho a' w' hR hF hK K h => hstep i hi o ho a' w' ⟨hR.os, hR.tape, hR.output, hR.size, hR.block⟩ hF hK K h)
    (fun a' w' hR hF h => hend a' w' ⟨hR.os, hR.tape, hR.output, hR.size, hR.block⟩ hF h)
/-- All steps, one after the other. -/
def AllS (P : Program) (Q : Exit → Act → World → Prop) (l : List Oper) (fs : List Fact) (a : Act) (w : World) : List Oper → Nat → Prop
  | [], _ => True
  | o :: r, i => StepOK P Q l fs a w i o ∧ AllS P Q l fs a w r (i + 1)
theorem allS_get {P : Program} {Q : Exit → Act → World → Prop} {l : List Oper} {fs : List Fact} {a : Act} {w : World} : ∀ (r : List Oper) (k : Nat), AllS P Q l fs a w r k → ∀ (j : Nat) (o : Oper), r[j]? = some o → StepOK P Q l fs a w (k + j) o
  | [], _, _, j, o, h => by simp at h
  | x :: r, k, hA, 0, o, h => by
    simp only [List.getElem?_cons_zero, Option.some.injEq] at h
    subst h
    exact hA.1
  | x :: r, k, hA, j + 1, o, h => by
    rw [List.getElem?_cons_succ] at h
    have := allS_get r (k + 1) hA.2 j o h
    rwa [show k + 1 + j = k + (j + 1) by omega] at this
/-- The law, its steps in a row. -/
theorem wp_region_steps {P : Program} {id : Nat} {l : List Oper} {Q : Exit → Act → World → Prop} {a : Act} {w : World} (N : Nat) (fs : List Fact) (hm : P.follows .mixedOrders = true) (hB : rgB l fs.length N = true) (hN : a.tmps.size = N)
    (hs : AllS P Q l fs a w (l.take fs.length) 0)
    (hend : ∀ a' w', Ex w.heap.size none w w' → Rim fs.length (dstOf l) a a' → (∀ i, i < fs.length → (factOf fs i).p (a'.eval (.tmp (dstOf l i))) w') → wpAny P .any l.toArray Q (l.length - fs.length) (List.replicate fs.length true ++ List.replicate (l.length - fs.length) false).toArray a' w') : (Code.region id l.toArray true).wp P Q a w :=
  wp_region_facts N fs hm hB hN (fun i hi o ho => by
    have := allS_get _ 0 hs i o (by rw [List.getElem?_take_of_lt hi]; exact ho)
    rwa [Nat.zero_add] at this) hend
theorem wpAny_drop {P : Program} {l : List Oper} {Q : Exit → Act → World → Prop} {a : Act} {w : World} {n : Nat} {ls : Array Bool} (hB : Region.seqB .any l.toArray (l.length - n) n ls = true) (h : wpList P l.toArray Q (l.drop n) a w) : wpAny P .any l.toArray Q (l.length - n) ls a w := by
  have hd : (l.drop n).length = l.length - n := by simp
  have := wpAny_of_seq (md := .any) (P := P) (ops := l.toArray) (Q' := Q) (l.drop n) n ls a w (fun j => by simp [List.getElem?_drop]) (by rw [hd]; exact hB) h
  rwa [hd] at this
end Go.Proofs.YtaihmldiglgipaaGreat

namespace Go.Proofs.YtaihmldiglgipaaGreat
open Go.RowKit

theorem millMod_any (n m : Int) (w : World) (hm : m ≤ 4611686018427387904) :
    Calls Tryz.prog 34 #[.int .i64 n, .int .i64 m] w fun e w' => e = .returned (.int .i64 (modI n m)) ∧ w = w' := by
  go_enter Tryz.func34, Tryz.ntmps34
  go_wp2_with (go_at_call 39; refine (mod_any _ _ _ hm).mono ?_; rintro e w' ⟨rfl, rfl⟩)
  go_ret
  exact ⟨rfl, rfl⟩

end Go.Proofs.YtaihmldiglgipaaGreat

namespace Go.Proofs.YtaihmldiglgipaaGreat
open Go.RowKit

theorem someTo_yes {d : List Int} {k : Nat} (h : dVal (someTo d k).2 3 = 0) : (someTo d (k + 1)).1 = (someTo d k).1 ++ [(k : Int)] := by rw [someTo, if_pos h]
theorem someTo_no {d : List Int} {k : Nat} (h : ¬ dVal (someTo d k).2 3 = 0) : (someTo d (k + 1)).1 = (someTo d k).1 := by rw [someTo, if_neg h, List.append_nil]
theorem someTo_rest {d : List Int} {k : Nat} : (someTo d (k + 1)).2 = (someTo d k).2.tail := rfl

set_option maxHeartbeats 400000 in
theorem some_any (N p : Nat) (d : List Int) (n : Int) (w : World) (hd : DiceAt N w p d) (hN : N ≤ w.heap.size) (h0 : 0 ≤ n) (hn : n ≤ 100000) :
    Calls Tryz.prog 37 #[.pointer (some ⟨p, 0, none⟩), .int .i64 n] w fun e w' => ∃ ro rc, e = .returned (.slice ro (someTo d n.toNat).1.length rc) ∧
      OwnI w' w.heap.size ro rc (someTo d n.toNat).1 ∧ DiceAt N w' p (someTo d n.toNat).2 ∧ Ex w.heap.size (some p) w w' := by
  obtain ⟨m, rfl⟩ := Int.eq_ofNat_of_zero_le h0
  rw [Int.toNat_natCast]
  have hp := hd.lt
  have hm : m ≤ 100000 := by omega
  go_enter Tryz.func37, Tryz.ntmps37
  go_wp2
  go_loopw [5, 6] (fun v i wr => ∃ (k : Nat) (ro : Option Addr) (rc : Nat), k ≤ m ∧ i = .int .i64 k ∧ v = .slice ro (someTo d k).1.length rc ∧ OwnI wr w.heap.size ro rc (someTo d k).1 ∧ DiceAt N wr p (someTo d k).2 ∧ Ex w.heap.size (some p) w wr) (fun _ i _ => m - (intOf i).toNat)
  case atStart => exact ⟨0, none, 0, by omega, rfl, rfl, OwnI.nil _ _, hd, Ex.refl _ _ _⟩
  case round =>
    obtain ⟨k, ro, rc, hk, rfl, rfl, hown, hdr, hex⟩ := hrel
    have hle := someTo_le d k
    have hsz := hex.size
    by_cases hlt : k < m
    · by_cases hv : dVal (someTo d k).2 3 = 0
      · have HK := Lib.hid (someTo_yes hv)
        have hb : (dVal (someTo d k).2 3 == 0) = true := by simpa using hv
        clear hv
        go_wp2_with (first
          | (go_at_call 13; refine (next_any N p _ _ _ hdr (by omega)).mono ?_; rintro e w2 ⟨rfl, hd2, hex2⟩; have hsz2 := hex2.size; have hown2 := hown.keep hex2 (Nat.le_refl _) (fun q e => by cases e; omega))
          | (at_builtin; refine wpList_appI (w0 := w2) rfl _ _ _ rfl Tryz.underlying22 Tryz.infoInt w.heap.size ro rc _ w2.heap.size k rfl rfl hown2 (Ex.new _ _) (by go_simp) (by omega) (by omega) ?_; intro ro' rc' w1 hown1 hex1))
        go_roundw
        case rel => exact ⟨k + 1, ro', rc', by omega, by go_num, by rw [HK.out, List.length_append]; rfl, by rw [HK.out]; exact hown1, hd2.keep hex1 (by omega), (hex.trans hex2 hsz (fun q e _ => by cases e; rfl)).trans hex1 (Nat.le_refl _) (by simp)⟩
        case measure => simp [intOf]; omega
      · have HK := Lib.hid (someTo_no hv)
        have hb : (dVal (someTo d k).2 3 == 0) = false := by simpa using hv
        clear hv
        go_wp2_with (first
          | (go_at_call 13; refine (next_any N p _ _ _ hdr (by omega)).mono ?_; rintro e w2 ⟨rfl, hd2, hex2⟩; have hsz2 := hex2.size; have hown2 := hown.keep hex2 (Nat.le_refl _) (fun q e => by cases e; omega)))
        go_roundw
        case rel => exact ⟨k + 1, ro, rc, by omega, by go_num, by rw [HK.out], by rw [HK.out]; exact hown2, by rw [someTo_rest]; exact hd2, hex.trans hex2 hsz (fun q e _ => by cases e; rfl)⟩
        case measure => simp [intOf]; omega
    · obtain rfl : k = m := by omega
      go_wp2
      go_ret
      exact ⟨ro, rc, rfl, hown, hdr, hex⟩

end Go.Proofs.YtaihmldiglgipaaGreat

namespace Go.Proofs.YtaihmldiglgipaaGreat
open Go.RowKit

set_option maxHeartbeats 400000 in
theorem keys_any (N p : Nat) (d : List Int) (n : Int) (w : World) (hd : DiceAt N w p d) (hN : N ≤ w.heap.size) (h0 : 0 ≤ n) (hn : n ≤ 100000) :
    Calls Tryz.prog 36 #[.pointer (some ⟨p, 0, none⟩), .int .i64 n] w fun e w' => ∃ ro rc, e = .returned (.slice ro (keysD d n).1.length rc) ∧
      OwnI w' w.heap.size ro rc (keysD d n).1 ∧ DiceAt N w' p (keysD d n).2 ∧ Ex w.heap.size (some p) w w' := by
  have hp := hd.lt
  by_cases h : (someTo d n.toNat).1 = []
  · have HK : Hid (keysD d n = ([dVal (someTo d n.toNat).2 n], (someTo d n.toNat).2.tail)) := if_pos h
    have hl : (((someTo d n.toNat).1.length : Int) == 0) = true := by simp [h]
    clear h
    go_enter Tryz.func36, Tryz.ntmps36
    go_wp2_with (first
      | (go_at_call 37; refine (some_any N p _ _ _ hd hN h0 hn).mono ?_; rintro e w2 ⟨ro, rc, rfl, hown2, hd2, hex2⟩; have hsz2 := hex2.size)
      | (go_at_call 13; refine (next_any N p _ _ _ hd2 (by omega)).mono ?_; rintro e w3 ⟨rfl, hd3, hex3⟩; have hsz3 := hex3.size))
    go_ret
    refine ⟨some ⟨w3.heap.size, 0, none⟩, 1, by rw [HK.out]; rfl, ?_, by rw [HK.out]; exact hd3.keep (Ex.new _ _) (by omega), ((hex2.trans hex3 hsz2 (fun q e _ => by cases e; rfl)).alloc (by omega) _)⟩
    rw [HK.out]
    exact own_lit1 w3 (by omega) _
  · have HK : Hid (keysD d n = someTo d n.toNat) := if_neg h
    have hl : (((someTo d n.toNat).1.length : Int) == 0) = false := by simpa using h
    clear h
    go_enter Tryz.func36, Tryz.ntmps36
    go_wp2_with (first
      | (go_at_call 37; refine (some_any N p _ _ _ hd hN h0 hn).mono ?_; rintro e w2 ⟨ro, rc, rfl, hown2, hd2, hex2⟩; have hsz2 := hex2.size))
    go_ret
    exact ⟨ro, rc, by rw [HK.out]; rfl, by rw [HK.out]; exact hown2, by rw [HK.out]; exact hd2, hex2⟩
end Go.Proofs.YtaihmldiglgipaaGreat

namespace Go.Proofs.YtaihmldiglgipaaGreat
open Go.RowKit

set_option maxHeartbeats 400000 in
theorem refHas_any (v1 : Value) (xs : List Int) (x : Int) (w : World) (hv1 : Ints w v1 xs) (hm : xs.length ≤ 9223372036854775807) :
    Calls Tryz.prog 19 #[v1, .int .i64 x] w fun e w' => e = .returned (.bool (hasI xs x)) ∧ w = w' := by
  obtain ⟨ao, cap, rfl, hx⟩ := hv1
  go_enter Tryz.func19, Tryz.ntmps19
  go_wp2
  go_loop [5] (fun i => ∃ k : Nat, k ≤ xs.length ∧ i = .int .i64 k ∧ hasI (xs.take k) x = false) (fun i => xs.length - (intOf i).toNat)
  case atStart => exact ⟨0, Nat.zero_le _, rfl, rfl⟩
  case round =>
    obtain ⟨k, hk, rfl, hno⟩ := hrel
    have HN := Lib.hid hno
    clear hno
    by_cases hlt : k < xs.length
    · obtain ⟨b, off, y, rfl, hck, HY⟩ := hx.get k hlt
      by_cases he : y = x
      · have hb : (y == x) = true := by simpa using he
        have HR := Lib.hid (hasI_get hlt (HY.out.trans he))
        clear he
        go_wp2
        go_ret
        exact ⟨by rw [HR.out]; rfl, rfl⟩
      · have hb : (y == x) = false := by simpa using he
        have HR := Lib.hid (hasI_take_succ hlt HN.out (by rw [HY.out]; exact he))
        clear he
        go_wp2
        go_round
        case rel => exact ⟨k + 1, by omega, by go_num, HR.out⟩
        case measure => simp [intOf]; omega
    · have HR : Hid (hasI xs x = false) := by
        have h := HN.out
        rwa [List.take_of_length_le (by omega)] at h
      go_wp2
      go_ret
      exact ⟨by rw [HR.out]; rfl, rfl⟩

end Go.Proofs.YtaihmldiglgipaaGreat

namespace Go.Proofs.YtaihmldiglgipaaGreat
open Go.RowKit

theorem keysTo_yes {c : Int → Bool} {k : Nat} (h : c k = true) : keysTo c (k + 1) = keysTo c k ++ [(k : Int)] := by rw [keysTo, if_pos h]
theorem keysTo_no {c : Int → Bool} {k : Nat} (h : c k = false) : keysTo c (k + 1) = keysTo c k := by rw [keysTo, if_neg (by simp [h]), List.append_nil]

end Go.Proofs.YtaihmldiglgipaaGreat

namespace Go.Proofs.YtaihmldiglgipaaGreat
open Go.RowKit

set_option maxHeartbeats 400000 in
theorem minus_any (v1 v2 : Value) (xs ys : List Int) (w : World) (hv1 : Ints w v1 xs) (hv2 : Ints w v2 ys) (hm : xs.length ≤ 9223372036854775807) (hm2 : ys.length ≤ 9223372036854775807) :
    Calls Tryz.prog 35 #[v1, v2] w fun e w' => ∃ ro rc, e = .returned (.slice ro (minusI xs ys).length rc) ∧ OwnI w' w.heap.size ro rc (minusI xs ys) ∧ Ex w.heap.size none w w' := by
  obtain ⟨ao, cap, rfl, hx⟩ := hv1
  obtain ⟨bo, cbp, rfl, hy⟩ := hv2
  go_enter Tryz.func35, Tryz.ntmps35
  go_wp2
  go_loopw [5, 6] (fun v i wr => ∃ (k : Nat) (ro : Option Addr) (rc : Nat), k ≤ 64 ∧ i = .int .i64 k ∧ v = .slice ro (keysTo (fun k => hasI xs k && !hasI ys k) k).length rc ∧ OwnI wr w.heap.size ro rc (keysTo (fun k => hasI xs k && !hasI ys k) k) ∧ Ex w.heap.size none w wr) (fun _ i _ => 64 - (intOf i).toNat)
  case atStart => exact ⟨0, none, 0, by omega, rfl, rfl, OwnI.nil _ _, Ex.refl _ _ _⟩
  case round =>
    obtain ⟨k, ro, rc, hk, rfl, rfl, hown, hex⟩ := hrel
    have hle := keysTo_le (fun k => hasI xs k && !hasI ys k) k
    have hsz := hex.size
    have hx1 := hx.keep hex (Nat.le_refl _) (by simp)
    have hy1 := hy.keep hex (Nat.le_refl _) (by simp)
    by_cases hlt : k < 64
    · by_cases h2 : hasI xs (k : Int) = true
      · by_cases h3 : hasI ys (k : Int) = true
        · have HK := Lib.hid (keysTo_no (c := (fun k => hasI xs k && !hasI ys k)) (k := k) (by simp [h3]))
          go_wp2_with (first
            | (go_at_call 19; refine (refHas_any _ _ _ _ (by first | exact ⟨_, _, rfl, hx1⟩ | exact ⟨_, _, rfl, hy1⟩) (by first | exact hm | exact hm2)).mono ?_; rintro e w' ⟨rfl, rfl⟩)
            | (at_builtin; refine wpList_appI rfl _ _ _ rfl Tryz.underlying22 Tryz.infoInt w.heap.size ro rc _ wr.heap.size k rfl rfl hown (Ex.new _ _) (by go_simp) (by omega) hsz ?_; intro ro' rc' w1 hown1 hex1))
          go_roundw
          case rel => exact ⟨k + 1, ro, rc, by omega, by go_num, by rw [HK.out], by rw [HK.out]; exact hown, hex⟩
          case measure => simp [intOf]; omega
        · replace h3 : hasI ys (k : Int) = false := by simpa using h3
          have HK := Lib.hid (keysTo_yes (c := (fun k => hasI xs k && !hasI ys k)) (k := k) (by simp [h2, h3]))
          go_wp2_with (first
            | (go_at_call 19; refine (refHas_any _ _ _ _ (by first | exact ⟨_, _, rfl, hx1⟩ | exact ⟨_, _, rfl, hy1⟩) (by first | exact hm | exact hm2)).mono ?_; rintro e w' ⟨rfl, rfl⟩)
            | (at_builtin; refine wpList_appI rfl _ _ _ rfl Tryz.underlying22 Tryz.infoInt w.heap.size ro rc _ wr.heap.size k rfl rfl hown (Ex.new _ _) (by go_simp) (by omega) hsz ?_; intro ro' rc' w1 hown1 hex1))
          go_roundw
          case rel => exact ⟨k + 1, ro', rc', by omega, by go_num, by rw [HK.out, List.length_append]; rfl, by rw [HK.out]; exact hown1, hex.trans hex1 (Nat.le_refl _) (by simp)⟩
          case measure => simp [intOf]; omega
      · replace h2 : hasI xs (k : Int) = false := by simpa using h2
        have HK := Lib.hid (keysTo_no (c := (fun k => hasI xs k && !hasI ys k)) (k := k) (by simp [h2]))
        go_wp2_with (first
          | (go_at_call 19; refine (refHas_any _ _ _ _ (by first | exact ⟨_, _, rfl, hx1⟩ | exact ⟨_, _, rfl, hy1⟩) (by first | exact hm | exact hm2)).mono ?_; rintro e w' ⟨rfl, rfl⟩)
          | (at_builtin; refine wpList_appI rfl _ _ _ rfl Tryz.underlying22 Tryz.infoInt w.heap.size ro rc _ wr.heap.size k rfl rfl hown (Ex.new _ _) (by go_simp) (by omega) hsz ?_; intro ro' rc' w1 hown1 hex1))
        go_roundw
        case rel => exact ⟨k + 1, ro, rc, by omega, by go_num, by rw [HK.out], by rw [HK.out]; exact hown, hex⟩
        case measure => simp [intOf]; omega
    · obtain rfl : k = 64 := by omega
      go_wp2
      go_ret
      exact ⟨ro, rc, rfl, hown, hex⟩
end Go.Proofs.YtaihmldiglgipaaGreat

namespace Go.Proofs.YtaihmldiglgipaaGreat
open Go.RowKit Go.Sort Go.Lib

/-- The numbers of a list, each once, ascending. -/
def uniq (l : List Int) : List Int := Lib.compact (l.mergeSort fun x y => decide (x ≤ y))
theorem ex_putRow {α : Type} [Inhabited α] (enc : α → Value) (w : World) (g off n : Nat) (d : Array α) (os : Array Obj) : Ex w.heap.size (some g) w (grow (putRow enc (Go.Sort.ahead w n) g off d) os) := by
  refine ⟨rfl, rfl, rfl, ?_, fun i hi hne => ?_⟩
  · rw [size_grow]
    unfold putRow mapBlock Go.Sort.ahead
    simp
  · rw [heap_grow_old _ _ (by unfold putRow mapBlock Go.Sort.ahead; simpa using hi)]
    unfold putRow mapBlock Go.Sort.ahead
    simp only [Array.getElem?_modify]
    rw [if_neg (by intro e; exact hne (by rw [e]))]
theorem holds_ints {w : World} {g off : Nat} {xs : List Int} (h : Holds (Value.int .i64) w g off xs.toArray) : IntsAt w (some ⟨g, off, none⟩) xs := by
  intro j hj
  refine ⟨g, off, rfl, fun i hi => ?_⟩
  rw [(h i (by simpa using hi)).1, getElem!_pos xs.toArray i (by simpa using hi)]
  simp [List.getD, hi]
theorem own_holds {w : World} {base g o cap n : Nat} {xs : List Int} (h : w.ownsRow base 3 1 (.slice (some ⟨g, o, none⟩) n cap) n (xs.map (Value.int .i64))) : Holds (Value.int .i64) w g 0 xs.toArray := by
  obtain ⟨_, _, _, _, h1, h2⟩ := own_there h
  intro j hj
  have hj' : j < xs.length := by simpa using hj
  rw [Nat.zero_add]
  refine ⟨h1 j _ ?_, h2 j⟩
  rw [getElem!_pos xs.toArray j hj]
  simp [hj']

end Go.Proofs.YtaihmldiglgipaaGreat

/- What the library's stable sort at trustflow/api.Heir leans on of a program: so that its walks may be made over whatever program and number of cells. No statement of the seat. | slices.swapRangeCmpFunc at trustflow/api.Heir, over whatever program that bears it: a contract, no statement of the seat. | slices.rotateCmpFunc at trustflow/api.Heir, over whatever program that bears it: a contract, no statement of the seat. -/
import Derived.Test.YtfllcohnfboccaaRows
import Derived.Test.YtfllcohnfboccaaSymG
import Derived.Test.YtfllcohnfboccaaRowKG
namespace Go.Proofs.Ytfllcohnfboccaa
open Go.RowKit Go.Sort

structure LayHeir (P : Program) (k : Nat) : Prop where
  mixed : P.follows .mixedOrders = true
  fS : P.funcs[148]? = some Try.f148
  fR : P.funcs[145]? = some Try.f145
  fM : P.funcs[134]? = some Try.f134
  fT : P.funcs[104]? = some Try.f104
  fI : ∀ args w, (callFunc 133 args).run P w = .ok (.enter 133 args) w
  t0 : P.underlying 0 = some (TypeDesc.tuple #[])
  a0 : ∀ w, (isAgg 0).run P w = .ok false w
  z0 : ∀ w, (Go.sizeOf 0).run P w = .ok 1 w
  v0 : ∀ w, (zeroValue 0).run P w = .ok (Value.tuple #[]) w
  t1 : P.underlying 3 = some (TypeDesc.int IntKind.i64)
  a1 : ∀ w, (isAgg 3).run P w = .ok false w
  z1 : ∀ w, (Go.sizeOf 3).run P w = .ok 1 w
  v1 : ∀ w, (zeroValue 3).run P w = .ok (Value.int IntKind.i64 0) w
  t2 : P.underlying 4 = some (TypeDesc.bool)
  a2 : ∀ w, (isAgg 4).run P w = .ok false w
  z2 : ∀ w, (Go.sizeOf 4).run P w = .ok 1 w
  v2 : ∀ w, (zeroValue 4).run P w = .ok (Value.bool false) w
  t3 : P.underlying 123 = some (TypeDesc.int IntKind.u64)
  a3 : ∀ w, (isAgg 123).run P w = .ok false w
  z3 : ∀ w, (Go.sizeOf 123).run P w = .ok 1 w
  v3 : ∀ w, (zeroValue 123).run P w = .ok (Value.int IntKind.u64 0) w
  t4 : P.underlying 62 = some (TypeDesc.slice 36)
  a4 : ∀ w, (isAgg 62).run P w = .ok false w
  z4 : ∀ w, (Go.sizeOf 62).run P w = .ok 1 w
  v4 : ∀ w, (zeroValue 62).run P w = .ok (Value.slice none 0 0) w
  t5 : P.underlying 120 = some (TypeDesc.func #[36, 36] #[3] false)
  a5 : ∀ w, (isAgg 120).run P w = .ok false w
  z5 : ∀ w, (Go.sizeOf 120).run P w = .ok 1 w
  v5 : ∀ w, (zeroValue 120).run P w = .ok (Value.nilFunc) w
  aE : ∀ w, (isAgg 36).run P w = .ok true w
  zE : ∀ w, (Go.sizeOf 36).run P w = .ok k w

theorem layHeir : LayHeir Try.prog 2 := {
  mixed := by kernel_rfl
  fS := Try.func148
  fR := Try.func145
  fM := Try.func134
  fT := Try.func104
  fI := enters_of Try.func133 (by kernel_rfl) rfl
  t0 := Try.underlying0
  a0 := Try.isAgg0
  z0 := Try.sizeOf0
  v0 := Try.zeroValue0
  t1 := Try.underlying3
  a1 := Try.isAgg3
  z1 := Try.sizeOf3
  v1 := Try.zeroValue3
  t2 := Try.underlying4
  a2 := Try.isAgg4
  z2 := Try.sizeOf4
  v2 := Try.zeroValue4
  t3 := Try.underlying123
  a3 := Try.isAgg123
  z3 := Try.sizeOf123
  v3 := Try.zeroValue123
  t4 := Try.underlying62
  a4 := Try.isAgg62
  z4 := Try.sizeOf62
  v4 := Try.zeroValue62
  t5 := Try.underlying120
  a5 := Try.isAgg120
  z5 := Try.sizeOf120
  v5 := Try.zeroValue120
  aE := Try.isAgg36
  zE := Try.sizeOf36 }
end Go.Proofs.Ytfllcohnfboccaa

namespace Go.Proofs.Ytfllcohnfboccaa
open Go.RowKit Go.Sort
variable {P : Program} {α : Type} [Inhabited α]

set_option maxHeartbeats 4000000 in
set_option maxRecDepth 1000000 in
theorem swapHeir_any {k : Nat} (L : LayHeir P k) (enc : α → List Value) (hk : ∀ x, (enc x).length = k) (h1 : ∀ x, ∀ v ∈ enc x, v.oneCell' = true) (g off cap x y n s : Nat) (X Y N : Int) (hX : (x : Int) = X) (hY : (y : Int) = Y) (hN : (n : Int) = N) (F : Value) (d : Array α) (w : World) (hH : HoldsK enc k w g off d) (hg : g < w.heap.size) (hxy : x + n ≤ y) (hy : y + n ≤ d.size) (hsz : d.size < 4611686018427387904) (hs : d.size = s) :
    Calls P 148 #[.slice (some ⟨g, off, none⟩) s cap, .int .i64 X, .int .i64 Y, .int .i64 N, F] w fun e w' =>
      e = .returned (.tuple #[]) ∧ ∃ d', HoldsK enc k w' g off d' ∧ By (swIx x y n) d d' ∧ Ex w.heap.size (some g) w w' := by
  subst hX hY hN hs
  have mixed := L.mixed; have t0 := L.t0; have a0 := L.a0; have z0 := L.z0; have v0 := L.v0; have t1 := L.t1; have a1 := L.a1; have z1 := L.z1; have v1 := L.v1; have t2 := L.t2; have a2 := L.a2; have z2 := L.z2; have v2 := L.v2; have t3 := L.t3; have a3 := L.a3; have z3 := L.z3; have v3 := L.v3; have t4 := L.t4; have a4 := L.a4; have z4 := L.z4; have v4 := L.v4; have t5 := L.t5; have a5 := L.a5; have z5 := L.z5; have v5 := L.v5; have aE := L.aE; have zE := L.zE
  have u4 := run_underlying L.t4
  have HK : Hid (∀ x, (enc x).length = k) := hk
  have H1 : Hid (∀ x, ∀ v ∈ enc x, v.oneCell' = true) := h1
  clear hk h1
  go_enter L.fS, Try.ntmps148
  go_wp2
  go_loopw [10] (fun vi wr => ∃ (i : Nat) (dk : Array α), vi = .int .i64 i ∧ i ≤ n ∧ HoldsK enc k wr g off dk ∧ By (swIx x y i) d dk ∧ Ex w.heap.size (some g) w wr) (fun vi _ => n - (intOf vi).toNat)
  case atStart => exact ⟨0, d, rfl, Nat.zero_le _, hH, By.swap0 _ _ _, Ex.refl _ _ _⟩
  case round =>
    obtain ⟨i, dk, rfl, hi, hHk, hby, hex⟩ := hrel
    have hdk := hby.1
    have hsz' := hex.size
    by_cases hlt : i < n
    · have hHd : HoldsK enc k wr.drew g off dk := hHk
      obtain ⟨vx, hvx⟩ : ∃ v, dk[x + i]! = v := ⟨_, rfl⟩
      obtain ⟨vy, hvy⟩ : ∃ v, dk[y + i]! = v := ⟨_, rfl⟩
      have bnd : ∀ x, x < dk.size → x * k + k ≤ dk.size * k := fun x hx => by
        have := Nat.mul_le_mul_right k (show x + 1 ≤ dk.size from hx); rwa [Nat.add_mul, Nat.one_mul] at this
      have e0 : ((x : Int) + i).toNat = x + i := by omega
      have e1 : ((y : Int) + i).toNat = y + i := by omega
      have p0 : (0 : Int) ≤ (x : Int) + i := by omega
      have p1 : (0 : Int) ≤ (y : Int) + i := by omega
      have q0 : (x : Int) + i < d.size := by omega
      have q1 : (y : Int) + i < d.size := by omega
      have lx : Sem.run P (loadCellsFrom ⟨g, off + (x + i) * k, none⟩ 0 k #[]) wr.drew = .ok (enc vx).toArray wr.drew := by rw [← hvx]; exact run_loadCellsFrom_list P _ _ _ k (HK.out _) (HoldsK.cells hHd HK.out (by omega))
      have ly : Sem.run P (loadCellsFrom ⟨g, off + (y + i) * k, none⟩ 0 k #[]) wr.drew = .ok (enc vy).toArray wr.drew := by rw [← hvy]; exact run_loadCellsFrom_list P _ _ _ k (HK.out _) (HoldsK.cells hHd HK.out (by omega))
      have s1 : Sem.run P (storeCells ⟨g, off + (x + i) * k, none⟩ (enc vy) 0) wr.drew = .ok () (wr.drew.setCells g (off + (x + i) * k) (enc vy)) := stores_of_holds P hHd ((x + i) * k) _ (by rw [HK.out, size_flatK]; exact bnd (x + i) (by omega)) (H1.out _)
      have s2 : Sem.run P (storeCells ⟨g, off + (y + i) * k, none⟩ (enc vx) 0) (wr.drew.setCells g (off + (x + i) * k) (enc vy)) = .ok () ((wr.drew.setCells g (off + (x + i) * k) (enc vy)).setCells g (off + (y + i) * k) (enc vx)) :=
        stores_of_holds P (holds_setCells_c hHd ((x + i) * k) _ (by rw [HK.out, size_flatK]; exact bnd (x + i) (by omega))) ((y + i) * k) _ (by rw [HK.out, size_setMany, size_flatK]; exact bnd (y + i) (by omega)) (H1.out _)
      have hsX : (enc vx).length = k := HK.out _
      have hsY : (enc vy).length = k := HK.out _
      clear bnd
      have HHk := Lib.hid hHk
      have HBy := Lib.hid hby
      clear hHd hHk hby
      obtain ⟨cX, hcX⟩ : ∃ c, c = enc vx := ⟨_, rfl⟩
      obtain ⟨cY, hcY⟩ : ∃ c, c = enc vy := ⟨_, rfl⟩
      rw [← hcX] at lx hsX
      rw [← hcY] at ly hsY
      rw [← hcY] at s1
      rw [← hcX, ← hcY] at s2
      have CC : Hid (cX = enc vx ∧ cY = enc vy ∧ dk[x + i]! = vx ∧ dk[y + i]! = vy) := ⟨hcX, hcY, hvx, hvy⟩
      clear hcX hcY hvx hvy
      have HD := Lib.hid hdk
      clear hdk
      go_wp2_with fail
      go_big_region_o
      all_goals go_wp2
      go_roundw
      case rel =>
        have hdk := HD.out
        obtain ⟨k1, k2⟩ := swapWorldK enc k HK.out wr g off dk (x + i) (y + i) HHk.out (by omega) (by omega) (by omega)
        refine ⟨i + 1, swp dk (x + i) (y + i), by go_num, by omega, ?_, HBy.out.swapS (by omega) (by omega), ?_⟩
        · rw [CC.out.1, CC.out.2.1, ← CC.out.2.2.1, ← CC.out.2.2.2]; exact k1
        · rw [CC.out.1, CC.out.2.1, ← CC.out.2.2.1, ← CC.out.2.2.2]; exact hex.trans k2 hsz' (fun q e _ => by cases e; rfl)
      case measure => simp [intOf]; omega
    · obtain rfl : i = n := by omega
      go_wp2
      go_end0
      exact ⟨rfl, dk, hHk, hby, hex⟩
end Go.Proofs.Ytfllcohnfboccaa

namespace Go.Proofs.Ytfllcohnfboccaa
open Go.RowKit Go.Sort
variable {P : Program} {α : Type} [Inhabited α]

/-- What is left of a rotation: behind f the rotation of [m - i, m + j) about m gives the whole. -/
def RotLeft (f : Nat → Nat) (a m b i j n : Nat) : Prop := (∀ t, t < n → f t < n) ∧ ∀ t, t < n → f (rotIx (m - i) m (m + j) t) = rotIx a m b t
theorem RotLeft.one {f : Nat → Nat} {a m b i j n : Nat} (h : RotLeft f a m b i j n) (hi : i ≤ m) (hj : j < i) (hm : m + j ≤ n) : RotLeft (fun t => f (swIx (m - i) m j t)) a m b (i - j) j n :=
  ⟨fun t ht => h.1 _ (swIx_lt (by omega) (by omega) ht), fun t ht => by
    show f (swIx (m - i) m j (rotIx (m - (i - j)) m (m + j) t)) = _
    rw [show m - (i - j) = m - i + j by omega, rot_step1 hi hj]; exact h.2 t ht⟩
theorem RotLeft.two {f : Nat → Nat} {a m b i j n : Nat} (h : RotLeft f a m b i j n) (hi : i ≤ m) (hj : i < j) (hm : m + j ≤ n) : RotLeft (fun t => f (swIx (m - i) (m + j - i) i t)) a m b i (j - i) n :=
  ⟨fun t ht => h.1 _ (swIx_lt (by omega) (by omega) ht), fun t ht => by
    show f (swIx (m - i) (m + j - i) i (rotIx (m - i) m (m + (j - i)) t)) = _
    rw [rot_step2 hi hj]; exact h.2 t ht⟩

set_option maxHeartbeats 4000000 in
set_option maxRecDepth 1000000 in
theorem rotHeir_any {k : Nat} (L : LayHeir P k) (enc : α → List Value) (hk : ∀ x, (enc x).length = k) (h1 : ∀ x, ∀ v ∈ enc x, v.oneCell' = true) (g off cap a m b s : Nat) (A M B : Int) (hA : (a : Int) = A) (hM : (m : Int) = M) (hB : (b : Int) = B) (F : Value) (d : Array α) (w : World) (hH : HoldsK enc k w g off d) (hg : g < w.heap.size) (ham : a < m) (hmb : m < b) (hb : b ≤ d.size) (hsz : d.size < 4611686018427387904) (hs : d.size = s) :
    Calls P 145 #[.slice (some ⟨g, off, none⟩) s cap, .int .i64 A, .int .i64 M, .int .i64 B, F] w fun e w' =>
      e = .returned (.tuple #[]) ∧ ∃ d', HoldsK enc k w' g off d' ∧ By (rotIx a m b) d d' ∧ Ex w.heap.size (some g) w w' := by
  subst hA hM hB hs
  have mixed := L.mixed; have t0 := L.t0; have a0 := L.a0; have z0 := L.z0; have v0 := L.v0; have t1 := L.t1; have a1 := L.a1; have z1 := L.z1; have v1 := L.v1; have t2 := L.t2; have a2 := L.a2; have z2 := L.z2; have v2 := L.v2; have t3 := L.t3; have a3 := L.a3; have z3 := L.z3; have v3 := L.v3; have t4 := L.t4; have a4 := L.a4; have z4 := L.z4; have v4 := L.v4; have t5 := L.t5; have a5 := L.a5; have z5 := L.z5; have v5 := L.v5; have aE := L.aE; have zE := L.zE
  have eS : ∀ args w, (callFunc 148 args).run P w = .ok (.enter 148 args) w := enters_of L.fS (by kernel_rfl) rfl
  have HK := Lib.hid hk
  have H1 := Lib.hid h1
  clear hk h1
  go_enter L.fR, Try.ntmps145
  go_wp2
  go_loopw [10, 11] (fun vi vj wr => ∃ (i j : Nat) (f : Nat → Nat) (dk : Array α), vi = .int .i64 i ∧ vj = .int .i64 j ∧ 1 ≤ i ∧ 1 ≤ j ∧ i ≤ m ∧ m + j ≤ d.size ∧ HoldsK enc k wr g off dk ∧ By f d dk ∧ RotLeft f a m b i j d.size ∧ Ex w.heap.size (some g) w wr) (fun vi vj _ => (intOf vi + intOf vj).toNat)
  case atStart => exact ⟨m - a, b - m, id, d, by congr 1; omega, by congr 1; omega, by omega, by omega, by omega, by omega, hH, By.refl _ _ (fun _ _ => rfl), ⟨fun _ h => h, fun t _ => by show rotIx _ _ _ _ = _; rw [show m - (m - a) = a by omega, show m + (b - m) = b by omega]⟩, Ex.refl _ _ _⟩
  case round =>
    obtain ⟨i, j, f, dk, rfl, rfl, hi, hj, him, hjm, hHk, hby, hrl, hex⟩ := hrel
    have HH := Lib.hid hHk
    have HB := Lib.hid hby
    have HR := Lib.hid hrl
    clear hHk hby hrl
    have hsz' := hex.size
    by_cases hne : i = j
    · have hd : ((i : Int) != (j : Int)) = false := by simp [hne]
      have HN := Lib.hid hne
      clear hne
      go_wp2_with fail
      refine (swapHeir_any L enc HK.out H1.out g off cap (m - i) m i _ _ _ _ (by omega) rfl rfl _ dk _ HH.out (by omega) (by omega) (by have := HB.out.1; have := HN.out; omega) (by have := HB.out.1; omega) HB.out.1).mono ?_
      rintro e w' ⟨rfl, d', hH', hby', hex'⟩
      go_wp2
      go_end0
      refine ⟨rfl, d', hH', (HB.out.trans hby' (fun t ht => swIx_lt (by omega) (by have := HN.out; omega) ht)).congr (fun t ht => ?_), hex.trans hex' hsz' (fun q e _ => by cases e; rfl)⟩
      show f (swIx (m - i) m i t) = _
      rw [rot_last him]
      have := HR.out.2 t ht
      rwa [← HN.out] at this
    · have hd : ((i : Int) != (j : Int)) = true := by simp; omega
      by_cases hlt : j < i
      · have hc : decide ((j : Int) < i) = true := decide_eq_true (by omega)
        go_wp2_with fail
        refine (swapHeir_any L enc HK.out H1.out g off cap (m - i) m j _ _ _ _ (by omega) rfl rfl _ dk _ HH.out (by omega) (by omega) (by have := HB.out.1; omega) (by have := HB.out.1; omega) HB.out.1).mono ?_
        rintro e w' ⟨rfl, d', hH', hby', hex'⟩
        go_wp2
        go_roundw
        case rel => exact ⟨i - j, j, _, d', by congr 1; omega, rfl, by omega, hj, by omega, hjm, hH', HB.out.trans hby' (fun t ht => swIx_lt (by omega) (by omega) ht), HR.out.one him hlt hjm, hex.trans hex' hsz' (fun q e _ => by cases e; rfl)⟩
        case measure => simp [intOf]; omega
      · have hc : decide ((j : Int) < i) = false := decide_eq_false (by omega)
        go_wp2_with fail
        refine (swapHeir_any L enc HK.out H1.out g off cap (m - i) (m + j - i) i _ _ _ _ (by omega) (by omega) rfl _ dk _ HH.out (by omega) (by omega) (by have := HB.out.1; omega) (by have := HB.out.1; omega) HB.out.1).mono ?_
        rintro e w' ⟨rfl, d', hH', hby', hex'⟩
        go_wp2
        go_roundw
        case rel => exact ⟨i, j - i, _, d', rfl, by congr 1; omega, hi, by omega, him, by omega, hH', HB.out.trans hby' (fun t ht => swIx_lt (by omega) (by omega) ht), HR.out.two him (by omega) hjm, hex.trans hex' hsz' (fun q e _ => by cases e; rfl)⟩
        case measure => simp [intOf]; omega
end Go.Proofs.Ytfllcohnfboccaa

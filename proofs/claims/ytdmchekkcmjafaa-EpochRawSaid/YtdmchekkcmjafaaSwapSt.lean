/- slices.swapRangeCmpFunc at trustflow/api.Statement, over whatever program that bears it: a contract, no statement of the seat. -/
import Derived.Test.YtdmchekkcmjafaaLaySt
namespace Go.Proofs.Ytdmchekkcmjafaa
open Go.RowKit Go.Sort
variable {P : Program} {α : Type} [Inhabited α]

set_option maxHeartbeats 4000000 in
set_option maxRecDepth 1000000 in
theorem swapSt_any {k : Nat} (L : LaySt P k) (enc : α → List Value) (hk : ∀ x, (enc x).length = k) (h1 : ∀ x, ∀ v ∈ enc x, v.oneCell' = true) (g off cap x y n s : Nat) (X Y N : Int) (hX : (x : Int) = X) (hY : (y : Int) = Y) (hN : (n : Int) = N) (F : Value) (d : Array α) (w : World) (hH : HoldsK enc k w g off d) (hg : g < w.heap.size) (hxy : x + n ≤ y) (hy : y + n ≤ d.size) (hsz : d.size < 4611686018427387904) (hs : d.size = s) :
    Calls P 75 #[.slice (some ⟨g, off, none⟩) s cap, .int .i64 X, .int .i64 Y, .int .i64 N, F] w fun e w' =>
      e = .returned (.tuple #[]) ∧ ∃ d', HoldsK enc k w' g off d' ∧ By (swIx x y n) d d' ∧ Ex w.heap.size (some g) w w' := by
  subst hX hY hN hs
  have mixed := L.mixed; have t0 := L.t0; have a0 := L.a0; have z0 := L.z0; have v0 := L.v0; have t1 := L.t1; have a1 := L.a1; have z1 := L.z1; have v1 := L.v1; have t2 := L.t2; have a2 := L.a2; have z2 := L.z2; have v2 := L.v2; have t3 := L.t3; have a3 := L.a3; have z3 := L.z3; have v3 := L.v3; have t4 := L.t4; have a4 := L.a4; have z4 := L.z4; have v4 := L.v4; have t5 := L.t5; have a5 := L.a5; have z5 := L.z5; have v5 := L.v5; have aE := L.aE; have zE := L.zE
  have u4 := run_underlying L.t4
  have HK : Hid (∀ x, (enc x).length = k) := hk
  have H1 : Hid (∀ x, ∀ v ∈ enc x, v.oneCell' = true) := h1
  clear hk h1
  go_enter L.fS, Try.ntmps75
  go_wp2
  go_loopw [10] (fun vi wr => ∃ (i : Nat) (dk : Array α), vi = .int .i64 i ∧ i ≤ n ∧ HoldsK enc k wr g off dk ∧ By (swIx x y i) d dk ∧ Ex w.heap.size (some g) w wr) (fun vi _ => n - (intOf vi).toNat)
  case atStart => exact ⟨0, d, rfl, Nat.zero_le _, hH, By.swap0 _ _ _, Ex.refl _ _ _⟩
  case round =>
    obtain ⟨i, dk, rfl, hi, hHk, hby, hex⟩ := hrel
    have hdk := hby.1
    have hsz' := hex.size
    by_cases hlt : i < n
    · have hHd : HoldsK enc k wr.drew g off dk := hHk
      obtain ⟨vx, hvx⟩ : ∃ v, dk[x + i]! = v := ⟨_, rfl⟩
      obtain ⟨vy, hvy⟩ : ∃ v, dk[y + i]! = v := ⟨_, rfl⟩
      have bnd : ∀ x, x < dk.size → x * k + k ≤ dk.size * k := fun x hx => by
        have := Nat.mul_le_mul_right k (show x + 1 ≤ dk.size from hx); rwa [Nat.add_mul, Nat.one_mul] at this
      have e0 : ((x : Int) + i).toNat = x + i := by omega
      have e1 : ((y : Int) + i).toNat = y + i := by omega
      have p0 : (0 : Int) ≤ (x : Int) + i := by omega
      have p1 : (0 : Int) ≤ (y : Int) + i := by omega
      have q0 : (x : Int) + i < d.size := by omega
      have q1 : (y : Int) + i < d.size := by omega
      have lx : Sem.run P (loadCellsFrom ⟨g, off + (x + i) * k, none⟩ 0 k #[]) wr.drew = .ok (enc vx).toArray wr.drew := by rw [← hvx]; exact run_loadCellsFrom_list P _ _ _ k (HK.out _) (HoldsK.cells hHd HK.out (by omega))
      have ly : Sem.run P (loadCellsFrom ⟨g, off + (y + i) * k, none⟩ 0 k #[]) wr.drew = .ok (enc vy).toArray wr.drew := by rw [← hvy]; exact run_loadCellsFrom_list P _ _ _ k (HK.out _) (HoldsK.cells hHd HK.out (by omega))
      have s1 : Sem.run P (storeCells ⟨g, off + (x + i) * k, none⟩ (enc vy) 0) wr.drew = .ok () (wr.drew.setCells g (off + (x + i) * k) (enc vy)) := stores_of_holds P hHd ((x + i) * k) _ (by rw [HK.out, size_flatK]; exact bnd (x + i) (by omega)) (H1.out _)
      have s2 : Sem.run P (storeCells ⟨g, off + (y + i) * k, none⟩ (enc vx) 0) (wr.drew.setCells g (off + (x + i) * k) (enc vy)) = .ok () ((wr.drew.setCells g (off + (x + i) * k) (enc vy)).setCells g (off + (y + i) * k) (enc vx)) :=
        stores_of_holds P (holds_setCells_c hHd ((x + i) * k) _ (by rw [HK.out, size_flatK]; exact bnd (x + i) (by omega))) ((y + i) * k) _ (by rw [HK.out, size_setMany, size_flatK]; exact bnd (y + i) (by omega)) (H1.out _)
      have hsX : (enc vx).length = k := HK.out _
      have hsY : (enc vy).length = k := HK.out _
      clear bnd
      have HHk := Lib.hid hHk
      have HBy := Lib.hid hby
      clear hHd hHk hby
      obtain ⟨cX, hcX⟩ : ∃ c, c = enc vx := ⟨_, rfl⟩
      obtain ⟨cY, hcY⟩ : ∃ c, c = enc vy := ⟨_, rfl⟩
      rw [← hcX] at lx hsX
      rw [← hcY] at ly hsY
      rw [← hcY] at s1
      rw [← hcX, ← hcY] at s2
      have CC : Hid (cX = enc vx ∧ cY = enc vy ∧ dk[x + i]! = vx ∧ dk[y + i]! = vy) := ⟨hcX, hcY, hvx, hvy⟩
      clear hcX hcY hvx hvy
      have HD := Lib.hid hdk
      clear hdk
      go_wp2_with fail
      go_big_region_o
      all_goals go_wp2
      go_roundw
      case rel =>
        have hdk := HD.out
        obtain ⟨k1, k2⟩ := swapWorldK enc k HK.out wr g off dk (x + i) (y + i) HHk.out (by omega) (by omega) (by omega)
        refine ⟨i + 1, swp dk (x + i) (y + i), by go_num, by omega, ?_, HBy.out.swapS (by omega) (by omega), ?_⟩
        · rw [CC.out.1, CC.out.2.1, ← CC.out.2.2.1, ← CC.out.2.2.2]; exact k1
        · rw [CC.out.1, CC.out.2.1, ← CC.out.2.2.1, ← CC.out.2.2.2]; exact hex.trans k2 hsz' (fun q e _ => by cases e; rfl)
      case measure => simp [intOf]; omega
    · obtain rfl : i = n := by omega
      go_wp2
      go_end0
      exact ⟨rfl, dk, hHk, hby, hex⟩
end Go.Proofs.Ytdmchekkcmjafaa

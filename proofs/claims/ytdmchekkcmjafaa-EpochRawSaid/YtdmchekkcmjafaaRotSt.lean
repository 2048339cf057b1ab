/- slices.rotateCmpFunc at trustflow/api.Statement, over whatever program that bears it: a contract, no statement of the seat. -/
import Derived.Test.YtdmchekkcmjafaaSwapSt
namespace Go.Proofs.Ytdmchekkcmjafaa
open Go.RowKit Go.Sort
variable {P : Program} {α : Type} [Inhabited α]

/-- What is left of a rotation: behind f the rotation of [m - i, m + j) about m gives the whole. -/
def RotLeft (f : Nat → Nat) (a m b i j n : Nat) : Prop := (∀ t, t < n → f t < n) ∧ ∀ t, t < n → f (rotIx (m - i) m (m + j) t) = rotIx a m b t
theorem RotLeft.one {f : Nat → Nat} {a m b i j n : Nat} (h : RotLeft f a m b i j n) (hi : i ≤ m) (hj : j < i) (hm : m + j ≤ n) : RotLeft (fun t => f (swIx (m - i) m j t)) a m b (i - j) j n :=
  ⟨fun t ht => h.1 _ (swIx_lt (by omega) (by omega) ht), fun t ht => by
    show f (swIx (m - i) m j (rotIx (m - (i - j)) m (m + j) t)) = _
    rw [show m - (i - j) = m - i + j by omega, rot_step1 hi hj]; exact h.2 t ht⟩
theorem RotLeft.two {f : Nat → Nat} {a m b i j n : Nat} (h : RotLeft f a m b i j n) (hi : i ≤ m) (hj : i < j) (hm : m + j ≤ n) : RotLeft (fun t => f (swIx (m - i) (m + j - i) i t)) a m b i (j - i) n :=
  ⟨fun t ht => h.1 _ (swIx_lt (by omega) (by omega) ht), fun t ht => by
    show f (swIx (m - i) (m + j - i) i (rotIx (m - i) m (m + (j - i)) t)) = _
    rw [rot_step2 hi hj]; exact h.2 t ht⟩

set_option maxHeartbeats 4000000 in
set_option maxRecDepth 1000000 in
theorem rotSt_any {k : Nat} (L : LaySt P k) (enc : α → List Value) (hk : ∀ x, (enc x).length = k) (h1 : ∀ x, ∀ v ∈ enc x, v.oneCell' = true) (g off cap a m b s : Nat) (A M B : Int) (hA : (a : Int) = A) (hM : (m : Int) = M) (hB : (b : Int) = B) (F : Value) (d : Array α) (w : World) (hH : HoldsK enc k w g off d) (hg : g < w.heap.size) (ham : a < m) (hmb : m < b) (hb : b ≤ d.size) (hsz : d.size < 4611686018427387904) (hs : d.size = s) :
    Calls P 71 #[.slice (some ⟨g, off, none⟩) s cap, .int .i64 A, .int .i64 M, .int .i64 B, F] w fun e w' =>
      e = .returned (.tuple #[]) ∧ ∃ d', HoldsK enc k w' g off d' ∧ By (rotIx a m b) d d' ∧ Ex w.heap.size (some g) w w' := by
  subst hA hM hB hs
  have mixed := L.mixed; have t0 := L.t0; have a0 := L.a0; have z0 := L.z0; have v0 := L.v0; have t1 := L.t1; have a1 := L.a1; have z1 := L.z1; have v1 := L.v1; have t2 := L.t2; have a2 := L.a2; have z2 := L.z2; have v2 := L.v2; have t3 := L.t3; have a3 := L.a3; have z3 := L.z3; have v3 := L.v3; have t4 := L.t4; have a4 := L.a4; have z4 := L.z4; have v4 := L.v4; have t5 := L.t5; have a5 := L.a5; have z5 := L.z5; have v5 := L.v5; have aE := L.aE; have zE := L.zE
  have eS : ∀ args w, (callFunc 75 args).run P w = .ok (.enter 75 args) w := enters_of L.fS (by kernel_rfl) rfl
  have HK := Lib.hid hk
  have H1 := Lib.hid h1
  clear hk h1
  go_enter L.fR, Try.ntmps71
  go_wp2
  go_loopw [10, 11] (fun vi vj wr => ∃ (i j : Nat) (f : Nat → Nat) (dk : Array α), vi = .int .i64 i ∧ vj = .int .i64 j ∧ 1 ≤ i ∧ 1 ≤ j ∧ i ≤ m ∧ m + j ≤ d.size ∧ HoldsK enc k wr g off dk ∧ By f d dk ∧ RotLeft f a m b i j d.size ∧ Ex w.heap.size (some g) w wr) (fun vi vj _ => (intOf vi + intOf vj).toNat)
  case atStart => exact ⟨m - a, b - m, id, d, by congr 1; omega, by congr 1; omega, by omega, by omega, by omega, by omega, hH, By.refl _ _ (fun _ _ => rfl), ⟨fun _ h => h, fun t _ => by show rotIx _ _ _ _ = _; rw [show m - (m - a) = a by omega, show m + (b - m) = b by omega]⟩, Ex.refl _ _ _⟩
  case round =>
    obtain ⟨i, j, f, dk, rfl, rfl, hi, hj, him, hjm, hHk, hby, hrl, hex⟩ := hrel
    have HH := Lib.hid hHk
    have HB := Lib.hid hby
    have HR := Lib.hid hrl
    clear hHk hby hrl
    have hsz' := hex.size
    by_cases hne : i = j
    · have hd : ((i : Int) != (j : Int)) = false := by simp [hne]
      have HN := Lib.hid hne
      clear hne
      go_wp2_with fail
      refine (swapSt_any L enc HK.out H1.out g off cap (m - i) m i _ _ _ _ (by omega) rfl rfl _ dk _ HH.out (by omega) (by omega) (by have := HB.out.1; have := HN.out; omega) (by have := HB.out.1; omega) HB.out.1).mono ?_
      rintro e w' ⟨rfl, d', hH', hby', hex'⟩
      go_wp2
      go_end0
      refine ⟨rfl, d', hH', (HB.out.trans hby' (fun t ht => swIx_lt (by omega) (by have := HN.out; omega) ht)).congr (fun t ht => ?_), hex.trans hex' hsz' (fun q e _ => by cases e; rfl)⟩
      show f (swIx (m - i) m i t) = _
      rw [rot_last him]
      have := HR.out.2 t ht
      rwa [← HN.out] at this
    · have hd : ((i : Int) != (j : Int)) = true := by simp; omega
      by_cases hlt : j < i
      · have hc : decide ((j : Int) < i) = true := decide_eq_true (by omega)
        go_wp2_with fail
        refine (swapSt_any L enc HK.out H1.out g off cap (m - i) m j _ _ _ _ (by omega) rfl rfl _ dk _ HH.out (by omega) (by omega) (by have := HB.out.1; omega) (by have := HB.out.1; omega) HB.out.1).mono ?_
        rintro e w' ⟨rfl, d', hH', hby', hex'⟩
        go_wp2
        go_roundw
        case rel => exact ⟨i - j, j, _, d', by congr 1; omega, rfl, by omega, hj, by omega, hjm, hH', HB.out.trans hby' (fun t ht => swIx_lt (by omega) (by omega) ht), HR.out.one him hlt hjm, hex.trans hex' hsz' (fun q e _ => by cases e; rfl)⟩
        case measure => simp [intOf]; omega
      · have hc : decide ((j : Int) < i) = false := decide_eq_false (by omega)
        go_wp2_with fail
        refine (swapSt_any L enc HK.out H1.out g off cap (m - i) (m + j - i) i _ _ _ _ (by omega) (by omega) rfl _ dk _ HH.out (by omega) (by omega) (by have := HB.out.1; omega) (by have := HB.out.1; omega) HB.out.1).mono ?_
        rintro e w' ⟨rfl, d', hH', hby', hex'⟩
        go_wp2
        go_roundw
        case rel => exact ⟨i, j - i, _, d', rfl, by congr 1; omega, hi, by omega, him, by omega, hH', HB.out.trans hby' (fun t ht => swIx_lt (by omega) (by omega) ht), HR.out.two him (by omega) hjm, hex.trans hex' hsz' (fun q e _ => by cases e; rfl)⟩
        case measure => simp [intOf]; omega
end Go.Proofs.Ytdmchekkcmjafaa

/- slices.symMergeCmpFunc, stableCmpFunc at trustflow/api.Heir, at whatever length, over whatever program that bears them: contracts, no statement of the seat. -/
import Derived.Test.YtdgfankkapeclaaGreatMergeBigHeirG
import Derived.Test.YtdgfankkapeclaaGreatMergeSmallHeirG
import Derived.Test.YtdgfankkapeclaaGreatMg01
namespace Go.Proofs.YtdgfankkapeclaaGreat
open Go.RowKit Go.Sort
variable {P : Program} {α : Type} [Inhabited α]

theorem symHeir_all {k : Nat} (L : LayHeir P k) (enc : α → List Value) (hk : ∀ x, (enc x).length = k) (h1 : ∀ x, ∀ v ∈ enc x, v.oneCell' = true) (cf : α → α → Int) (hS : SWO (ltOf cf)) (f : Nat) (cb : Array Value)
    (ef : ∀ args w, (callFunc f args).run P w = .ok (.enter f args) w) (hcmp : CmpAt P f cb enc cf) (g off cap : Nat) (s : Nat) (hsz : s < 4611686018427387904) : ∀ N, SymOKHeir P k enc cf (.func (.func f) #[] cb) g off cap s N
  | 0 => fun a m b A M B d w _ _ _ _ _ h1 h2 _ h3 _ _ _ => absurd h3 (by omega)
  | N + 1 => fun a m b A M B d w hA hM hB hH hg ham hmb hb hN hs r1 r2 => by
    have ih := symHeir_all L enc hk h1 cf hS f cb ef hcmp g off cap s hsz N
    have hsz' : d.size < 4611686018427387904 := by omega
    by_cases e1 : m = a + 1
    · exact symOneHeir L enc hk h1 cf hS f cb ef hcmp g off cap a m b s A M B hA hM hB d w hH hg ham hmb hb hsz' hs r1 r2 e1
    · by_cases e2 : b = m + 1
      · exact symEndHeir L enc hk h1 cf hS f cb ef hcmp g off cap a m b s A M B hA hM hB d w hH hg ham hmb hb hsz' hs r1 r2 e1 e2
      · have ih' : SymOKHeir P k enc cf (.func (.func f) #[] cb) g off cap s (b - a - 1) := fun a' m' b' A' M' B' d' w' x1 x2 x3 x4 x5 x6 x7 x8 x9 x10 x11 x12 => ih a' m' b' A' M' B' d' w' x1 x2 x3 x4 x5 x6 x7 x8 (by omega) x10 x11 x12
        by_cases e3 : (a + b) / 2 < m
        · exact symBigHeir L enc hk h1 cf hS f cb ef hcmp g off cap a m b s A M B hA hM hB d w hH hg ham hmb hb hsz' hs r1 r2 e1 e2 ih' e3
        · exact symSmallHeir L enc hk h1 cf hS f cb ef hcmp g off cap a m b s A M B hA hM hB d w hH hg ham hmb hb hsz' hs r1 r2 e1 e2 ih' e3

/-- The insertion sort's contract. -/
def InsOKHeir (P : Program) (k : Nat) (enc : α → List Value) (cf : α → α → Int) (F : Value) (g off cap s : Nat) : Prop :=
  ∀ (a b : Nat) (A B : Int) (d : Array α) (w : World), (a : Int) = A → (b : Int) = B → HoldsK enc k w g off d → g < w.heap.size → a ≤ b → b ≤ d.size → d.size = s →
    Calls P 268 #[.slice (some ⟨g, off, none⟩) s cap, .int .i64 A, .int .i64 B, F] w fun e w' =>
      e = .returned (.tuple #[]) ∧ ∃ d', HoldsK enc k w' g off d' ∧ SM (ltOf cf) a b d d' ∧ SortedIn (ltOf cf) a b d' ∧ Ex w.heap.size (some g) w w'

set_option maxHeartbeats 8000000 in
set_option maxRecDepth 1000000 in
theorem stableHeir_all {k : Nat} (L : LayHeir P k) (enc : α → List Value) (hk : ∀ x, (enc x).length = k) (h1 : ∀ x, ∀ v ∈ enc x, v.oneCell' = true) (cf : α → α → Int) (hS : SWO (ltOf cf)) (f : Nat) (cb : Array Value)
    (ef : ∀ args w, (callFunc f args).run P w = .ok (.enter f args) w) (hcmp : CmpAt P f cb enc cf) (g off cap : Nat) (s : Nat) (hsz : s < 1000000000000) (hI : InsOKHeir P k enc cf (.func (.func f) #[] cb) g off cap s) (S : Int) (hS' : (s : Int) = S) (d : Array α) (w : World) (hH : HoldsK enc k w g off d) (hg : g < w.heap.size) (hs : d.size = s) :
    Calls P 204 #[.slice (some ⟨g, off, none⟩) s cap, .int .i64 S, .func (.func f) #[] cb] w fun e w' =>
      e = .returned (.tuple #[]) ∧ ∃ d', HoldsK enc k w' g off d' ∧ Stab (ltOf cf) d d' ∧ Ex w.heap.size (some g) w w' := by
  subst hS'
  have HM : Hid (∀ N, SymOKHeir P k enc cf (.func (.func f) #[] cb) g off cap s N) := symHeir_all L enc hk h1 cf hS f cb ef hcmp g off cap s (by omega)
  have HIn := Lib.hid hI
  have mixed := L.mixed; have t0 := L.t0; have a0 := L.a0; have z0 := L.z0; have v0 := L.v0; have t1 := L.t1; have a1 := L.a1; have z1 := L.z1; have v1 := L.v1; have t2 := L.t2; have a2 := L.a2; have z2 := L.z2; have v2 := L.v2; have t3 := L.t3; have a3 := L.a3; have z3 := L.z3; have v3 := L.v3; have t4 := L.t4; have a4 := L.a4; have z4 := L.z4; have v4 := L.v4; have t5 := L.t5; have a5 := L.a5; have z5 := L.z5; have v5 := L.v5; have aE := L.aE; have zE := L.zE
  have eI := L.fI
  have eM : ∀ args w, (callFunc 269 args).run P w = .ok (.enter 269 args) w := enters_of L.fM (by kernel_rfl) rfl
  have HHw := Lib.hid hH
  have HZ := Lib.hid hs
  clear hI hk h1 hcmp hH hs ef hS
  go_enter L.fT, Tryz.ntmps204
  go_wp2
  go_loopw [7, 8] (fun va vb wr => ∃ (n a : Nat) (dk : Array α), va = .int .i64 a ∧ vb = .int .i64 (a + 20) ∧ a ≤ s ∧ HoldsK enc k wr g off dk ∧ dk.size = s ∧ SM (ltOf cf) 0 s d dk ∧ Head (ltOf cf) 20 n a dk ∧ Ex w.heap.size (some g) w wr) (fun va _ _ => s - (intOf va).toNat)
  case atStart => exact ⟨0, 0, d, rfl, rfl, Nat.zero_le _, HHw.out, HZ.out, SM.refl _ _ _ _, Head.start _ _ _, Ex.refl _ _ _⟩
  case round =>
    obtain ⟨n, a, dk, rfl, rfl, has, hHk, hdk, hsm, hhd, hex⟩ := hrel
    have HHk := Lib.hid hHk
    have HD := Lib.hid (And.intro hdk (And.intro hsm hhd))
    clear hHk hdk hsm hhd
    have hsz' := hex.size
    by_cases hle : (a : Int) + 20 ≤ s
    · go_wp2_with fail
      refine (HIn.out a (a + 20) _ _ dk _ rfl (by omega) HHk.out (by omega) (by omega) (by have := HD.out.1; omega) HD.out.1).mono ?_
      rintro e w1 ⟨rfl, d1, hH1, k1, s1, hex1⟩
      go_wp2
      go_roundw
      case rel => exact ⟨n + 1, a + 20, d1, by go_num, by first | rfl | (congr 1; omega), by omega, hH1, k1.size.trans HD.out.1, HD.out.2.1.trans (k1.mono (Nat.zero_le _) (by omega)), HD.out.2.2.step k1 s1, hex.trans hex1 hsz' (fun q e _ => by cases e; rfl)⟩
      case measure => simp [intOf]; omega
    · go_wp2_with fail
      refine (HIn.out a s _ _ dk _ rfl rfl HHk.out (by omega) has (by have := HD.out.1; omega) HD.out.1).mono ?_
      rintro e w1 ⟨rfl, d1, hH1, k1, s1, hex1⟩
      have hE1 := hex.trans hex1 hsz' (fun q e _ => by cases e; rfl)
      have R1 : Hid (Runs (ltOf cf) 20 s d1 ∧ SM (ltOf cf) 0 s d d1 ∧ d1.size = s) := ⟨HD.out.2.2.close (by omega) k1 s1, HD.out.2.1.trans (k1.mono (Nat.zero_le _) (by omega)), k1.size.trans HD.out.1⟩
      have HH1 := Lib.hid hH1
      clear k1 s1 HHk HD hex hH1 hex1
      go_wp2
      go_loopw [6] (fun vs wr => ∃ (z : Nat) (dk : Array α), vs = .int .i64 z ∧ 20 ≤ z ∧ z ≤ 2 * s + 20 ∧ HoldsK enc k wr g off dk ∧ dk.size = s ∧ SM (ltOf cf) 0 s d dk ∧ Runs (ltOf cf) z s dk ∧ Ex w.heap.size (some g) w wr) (fun vs _ => s - (intOf vs).toNat)
      case atStart => exact ⟨20, d1, rfl, Nat.le_refl _, by omega, HH1.out, R1.out.2.2, R1.out.2.1, R1.out.1, hE1⟩
      case round =>
        clear HH1 R1 hE1 hsz' hle has
        obtain ⟨z, dk, rfl, h20, hz2, hHk, hdk, hsm, hrn, hex⟩ := hrel
        have HHk := Lib.hid hHk
        have HD := Lib.hid (And.intro hdk (And.intro hsm hrn))
        clear hHk hdk hsm hrn
        have hsz' := hex.size
        obtain ⟨wo, rfl⟩ : ∃ wo : World, wo = wr := ⟨_, rfl⟩
        by_cases hlt : (z : Int) < s
        · go_wp2
          go_loopw [7, 8] (fun va vb wr => ∃ (n a : Nat) (dk : Array α), va = .int .i64 a ∧ vb = .int .i64 (a + 2 * z) ∧ a ≤ s ∧ HoldsK enc k wr g off dk ∧ dk.size = s ∧ SM (ltOf cf) 0 s d dk ∧ Mid (ltOf cf) z s n a dk ∧ Ex w.heap.size (some g) w wr) (fun va _ _ => s - (intOf va).toNat)
          case atStart => exact ⟨0, 0, dk, rfl, by first | rfl | (congr 1; omega), Nat.zero_le _, HHk.out, HD.out.1, HD.out.2.1, Mid.start HD.out.2.2, hex⟩
          case round =>
            clear HHk HD hex hsz'
            obtain ⟨n, a, dk, rfl, rfl, has, hHk, hdk, hsm, hmd, hex⟩ := hrel
            have HHk := Lib.hid hHk
            have HD := Lib.hid (And.intro hdk (And.intro hsm hmd))
            clear hHk hdk hsm hmd
            have hsz' := hex.size
            by_cases hle : (a : Int) + 2 * z ≤ s
            · go_wp2_with fail
              refine (HM.out (a + 2 * z - a) a (a + z) (a + 2 * z) _ _ _ dk _ rfl (by omega) (by omega) HHk.out (by omega) (by omega) (by omega) (by have := HD.out.1; omega) (Nat.le_refl _) HD.out.1
                (by have := HD.out.2.2.first; rwa [Nat.min_eq_left (by omega)] at this) (by have := HD.out.2.2.second; rwa [Nat.min_eq_left (by omega), show a + z + z = a + 2 * z by omega] at this)).mono ?_
              rintro e w1 ⟨rfl, d1, hH1, k1, s1, hex1⟩
              go_wp2
              go_roundw
              case rel => exact ⟨n + 1, a + 2 * z, d1, by go_num, by first | rfl | (congr 1; omega), by omega, hH1, k1.size.trans HD.out.1, HD.out.2.1.trans (k1.mono (Nat.zero_le _) (by omega)), HD.out.2.2.step k1 s1, hex.trans hex1 hsz' (fun q e _ => by cases e; rfl)⟩
              case measure => simp [intOf]; omega
            · by_cases hm : (a : Int) + z < s
              · go_wp2_with fail
                refine (HM.out (s - a) a (a + z) s _ _ _ dk _ rfl (by omega) rfl HHk.out (by omega) (by omega) (by omega) (by have := HD.out.1; omega) (Nat.le_refl _) HD.out.1
                  (by have := HD.out.2.2.first; rwa [Nat.min_eq_left (by omega)] at this) (by have := HD.out.2.2.second; rwa [Nat.min_eq_right (by omega)] at this)).mono ?_
                rintro e w1 ⟨rfl, d1, hH1, k1, s1, hex1⟩
                go_wp2
                go_roundw
                case rel => exact ⟨2 * z, d1, by first | rfl | (congr 1; omega), by omega, by omega, hH1, k1.size.trans HD.out.1, HD.out.2.1.trans (k1.mono (Nat.zero_le _) (Nat.le_refl _)), HD.out.2.2.close (by omega) k1 s1, hex.trans hex1 hsz' (fun q e _ => by cases e; rfl)⟩
                case measure => simp [intOf]; omega
              · go_wp2
                go_roundw
                case rel => exact ⟨2 * z, dk, by first | rfl | (congr 1; omega), by omega, by omega, HHk.out, HD.out.1, HD.out.2.1, HD.out.2.2.close (by omega) (SM.refl _ _ _ _) (by have := HD.out.2.2.first; rwa [Nat.min_eq_right (by omega)] at this), hex⟩
                case measure => simp [intOf]; omega
        · go_wp2
          go_end0
          have := HD.out
          refine ⟨rfl, dk, HHk.out, ⟨this.2.1.size, ?_, this.2.1.perm, this.2.1.kind⟩, hex⟩
          rw [HZ.out]; exact this.2.2.whole (by omega)

set_option maxHeartbeats 400000 in
theorem sortStableHeir_all {k : Nat} (L : LayHeir P k) (enc : α → List Value) (hk : ∀ x, (enc x).length = k) (h1 : ∀ x, ∀ v ∈ enc x, v.oneCell' = true) (cf : α → α → Int) (hS : SWO (ltOf cf)) (f : Nat) (cb : Array Value)
    (ef : ∀ args w, (callFunc f args).run P w = .ok (.enter f args) w) (hcmp : CmpAt P f cb enc cf) (g off cap : Nat) (s : Nat) (hsz : s < 1000000000000) (hI : InsOKHeir P k enc cf (.func (.func f) #[] cb) g off cap s) (d : Array α) (w : World) (hH : HoldsK enc k w g off d) (hg : g < w.heap.size) (hs : d.size = s)
    (fS : P.funcs[128]? = some Tryz.f128) :
    Calls P 128 #[.slice (some ⟨g, off, none⟩) s cap, .func (.func f) #[] cb] w fun e w' =>
      e = .returned (.tuple #[]) ∧ ∃ d', HoldsK enc k w' g off d' ∧ Stab (ltOf cf) d d' ∧ Ex w.heap.size (some g) w w' := by
  have h := stableHeir_all L enc hk h1 cf hS f cb ef hcmp g off cap s hsz hI _ rfl d w hH hg hs
  have mixed := L.mixed; have t0 := L.t0; have a0 := L.a0; have z0 := L.z0; have v0 := L.v0; have t1 := L.t1; have a1 := L.a1; have z1 := L.z1; have v1 := L.v1; have t2 := L.t2; have a2 := L.a2; have z2 := L.z2; have v2 := L.v2; have t3 := L.t3; have a3 := L.a3; have z3 := L.z3; have v3 := L.v3; have t4 := L.t4; have a4 := L.a4; have z4 := L.z4; have v4 := L.v4; have t5 := L.t5; have a5 := L.a5; have z5 := L.z5; have v5 := L.v5; have aE := L.aE; have zE := L.zE
  have eT : ∀ args w, (callFunc 204 args).run P w = .ok (.enter 204 args) w := enters_of L.fT (by kernel_rfl) rfl
  have HX := Lib.hid h
  clear h hI hk h1 hcmp hH hs ef hS
  go_enter fS, Tryz.ntmps128
  go_wp2_with fail
  refine HX.out.mono ?_
  rintro e w1 ⟨rfl, hp⟩
  go_wp2
  go_end0
  exact ⟨rfl, hp⟩
end Go.Proofs.YtdgfankkapeclaaGreat

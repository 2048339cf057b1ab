/- slices.symMergeCmpFunc, stableCmpFunc at trustflow/api.Heir, at whatever length, over whatever program that bears them: contracts, no statement of the seat. | The program's mourning.sorted: a contract, and what its answer is good for. No statement of the seat. | The program's mourning.Follow: a contract, no statement of the seat. | The program's mourning.Replace: a contract, no statement of the seat. | awake of the Mourning laws: a contract, no statement of the seat. | MourningAgain: heirs that lead upwards: plain laws. No program in sight. -/
import Derived.Test.YtaghfcnpnfhacaaGreatMergeBigHeirG
import Derived.Test.YtaghfcnpnfhacaaGreatMergeSmallHeirG
import Derived.Test.YtaghfcnpnfhacaaGreatMg02
import Derived.Test.YtaghfcnpnfhacaaGreatMg01
import Derived.Test.YtaghfcnpnfhacaaGreatMg00
namespace Go.Proofs.YtaghfcnpnfhacaaGreat
open Go.RowKit Go.Sort
variable {P : Program} {α : Type} [Inhabited α]

theorem symHeir_all {k : Nat} (L : LayHeir P k) (enc : α → List Value) (hk : ∀ x, (enc x).length = k) (h1 : ∀ x, ∀ v ∈ enc x, v.oneCell' = true) (cf : α → α → Int) (hS : SWO (ltOf cf)) (f : Nat) (cb : Array Value)
    (ef : ∀ args w, (callFunc f args).run P w = .ok (.enter f args) w) (hcmp : CmpAt P f cb enc cf) (g off cap : Nat) (s : Nat) (hsz : s < 4611686018427387904) : ∀ N, SymOKHeir P k enc cf (.func (.func f) #[] cb) g off cap s N
  | 0 => fun a m b A M B d w _ _ _ _ _ h1 h2 _ h3 _ _ _ => absurd h3 (by omega)
  | N + 1 => fun a m b A M B d w hA hM hB hH hg ham hmb hb hN hs r1 r2 => by
    have ih := symHeir_all L enc hk h1 cf hS f cb ef hcmp g off cap s hsz N
    have hsz' : d.size < 4611686018427387904 := by omega
    by_cases e1 : m = a + 1
    · exact symOneHeir L enc hk h1 cf hS f cb ef hcmp g off cap a m b s A M B hA hM hB d w hH hg ham hmb hb hsz' hs r1 r2 e1
    · by_cases e2 : b = m + 1
      · exact symEndHeir L enc hk h1 cf hS f cb ef hcmp g off cap a m b s A M B hA hM hB d w hH hg ham hmb hb hsz' hs r1 r2 e1 e2
      · have ih' : SymOKHeir P k enc cf (.func (.func f) #[] cb) g off cap s (b - a - 1) := fun a' m' b' A' M' B' d' w' x1 x2 x3 x4 x5 x6 x7 x8 x9 x10 x11 x12 => ih a' m' b' A' M' B' d' w' x1 x2 x3 x4 x5 x6 x7 x8 (by omega) x10 x11 x12
        by_cases e3 : (a + b) / 2 < m
        · exact symBigHeir L enc hk h1 cf hS f cb ef hcmp g off cap a m b s A M B hA hM hB d w hH hg ham hmb hb hsz' hs r1 r2 e1 e2 ih' e3
        · exact symSmallHeir L enc hk h1 cf hS f cb ef hcmp g off cap a m b s A M B hA hM hB d w hH hg ham hmb hb hsz' hs r1 r2 e1 e2 ih' e3

/-- The insertion sort's contract. -/
def InsOKHeir (P : Program) (k : Nat) (enc : α → List Value) (cf : α → α → Int) (F : Value) (g off cap s : Nat) : Prop :=
  ∀ (a b : Nat) (A B : Int) (d : Array α) (w : World), (a : Int) = A → (b : Int) = B → HoldsK enc k w g off d → g < w.heap.size → a ≤ b → b ≤ d.size → d.size = s →
    Calls P 327 #[.slice (some ⟨g, off, none⟩) s cap, .int .i64 A, .int .i64 B, F] w fun e w' =>
      e = .returned (.tuple #[]) ∧ ∃ d', HoldsK enc k w' g off d' ∧ SM (ltOf cf) a b d d' ∧ SortedIn (ltOf cf) a b d' ∧ Ex w.heap.size (some g) w w'

set_option maxHeartbeats 8000000 in
set_option maxRecDepth 1000000 in
theorem stableHeir_all {k : Nat} (L : LayHeir P k) (enc : α → List Value) (hk : ∀ x, (enc x).length = k) (h1 : ∀ x, ∀ v ∈ enc x, v.oneCell' = true) (cf : α → α → Int) (hS : SWO (ltOf cf)) (f : Nat) (cb : Array Value)
    (ef : ∀ args w, (callFunc f args).run P w = .ok (.enter f args) w) (hcmp : CmpAt P f cb enc cf) (g off cap : Nat) (s : Nat) (hsz : s < 1000000000000) (hI : InsOKHeir P k enc cf (.func (.func f) #[] cb) g off cap s) (S : Int) (hS' : (s : Int) = S) (d : Array α) (w : World) (hH : HoldsK enc k w g off d) (hg : g < w.heap.size) (hs : d.size = s) :
    Calls P 289 #[.slice (some ⟨g, off, none⟩) s cap, .int .i64 S, .func (.func f) #[] cb] w fun e w' =>
      e = .returned (.tuple #[]) ∧ ∃ d', HoldsK enc k w' g off d' ∧ Stab (ltOf cf) d d' ∧ Ex w.heap.size (some g) w w' := by
  subst hS'
  have HM : Hid (∀ N, SymOKHeir P k enc cf (.func (.func f) #[] cb) g off cap s N) := symHeir_all L enc hk h1 cf hS f cb ef hcmp g off cap s (by omega)
  have HIn := Lib.hid hI
  have mixed := L.mixed; have t0 := L.t0; have a0 := L.a0; have z0 := L.z0; have v0 := L.v0; have t1 := L.t1; have a1 := L.a1; have z1 := L.z1; have v1 := L.v1; have t2 := L.t2; have a2 := L.a2; have z2 := L.z2; have v2 := L.v2; have t3 := L.t3; have a3 := L.a3; have z3 := L.z3; have v3 := L.v3; have t4 := L.t4; have a4 := L.a4; have z4 := L.z4; have v4 := L.v4; have t5 := L.t5; have a5 := L.a5; have z5 := L.z5; have v5 := L.v5; have aE := L.aE; have zE := L.zE
  have eI := L.fI
  have eM : ∀ args w, (callFunc 328 args).run P w = .ok (.enter 328 args) w := enters_of L.fM (by kernel_rfl) rfl
  have HHw := Lib.hid hH
  have HZ := Lib.hid hs
  clear hI hk h1 hcmp hH hs ef hS
  go_enter L.fT, Tryz.ntmps289
  go_wp2
  go_loopw [7, 8] (fun va vb wr => ∃ (n a : Nat) (dk : Array α), va = .int .i64 a ∧ vb = .int .i64 (a + 20) ∧ a ≤ s ∧ HoldsK enc k wr g off dk ∧ dk.size = s ∧ SM (ltOf cf) 0 s d dk ∧ Head (ltOf cf) 20 n a dk ∧ Ex w.heap.size (some g) w wr) (fun va _ _ => s - (intOf va).toNat)
  case atStart => exact ⟨0, 0, d, rfl, rfl, Nat.zero_le _, HHw.out, HZ.out, SM.refl _ _ _ _, Head.start _ _ _, Ex.refl _ _ _⟩
  case round =>
    obtain ⟨n, a, dk, rfl, rfl, has, hHk, hdk, hsm, hhd, hex⟩ := hrel
    have HHk := Lib.hid hHk
    have HD := Lib.hid (And.intro hdk (And.intro hsm hhd))
    clear hHk hdk hsm hhd
    have hsz' := hex.size
    by_cases hle : (a : Int) + 20 ≤ s
    · go_wp2_with fail
      refine (HIn.out a (a + 20) _ _ dk _ rfl (by omega) HHk.out (by omega) (by omega) (by have := HD.out.1; omega) HD.out.1).mono ?_
      rintro e w1 ⟨rfl, d1, hH1, k1, s1, hex1⟩
      go_wp2
      go_roundw
      case rel => exact ⟨n + 1, a + 20, d1, by go_num, by first | rfl | (congr 1; omega), by omega, hH1, k1.size.trans HD.out.1, HD.out.2.1.trans (k1.mono (Nat.zero_le _) (by omega)), HD.out.2.2.step k1 s1, hex.trans hex1 hsz' (fun q e _ => by cases e; rfl)⟩
      case measure => simp [intOf]; omega
    · go_wp2_with fail
      refine (HIn.out a s _ _ dk _ rfl rfl HHk.out (by omega) has (by have := HD.out.1; omega) HD.out.1).mono ?_
      rintro e w1 ⟨rfl, d1, hH1, k1, s1, hex1⟩
      have hE1 := hex.trans hex1 hsz' (fun q e _ => by cases e; rfl)
      have R1 : Hid (Runs (ltOf cf) 20 s d1 ∧ SM (ltOf cf) 0 s d d1 ∧ d1.size = s) := ⟨HD.out.2.2.close (by omega) k1 s1, HD.out.2.1.trans (k1.mono (Nat.zero_le _) (by omega)), k1.size.trans HD.out.1⟩
      have HH1 := Lib.hid hH1
      clear k1 s1 HHk HD hex hH1 hex1
      go_wp2
      go_loopw [6] (fun vs wr => ∃ (z : Nat) (dk : Array α), vs = .int .i64 z ∧ 20 ≤ z ∧ z ≤ 2 * s + 20 ∧ HoldsK enc k wr g off dk ∧ dk.size = s ∧ SM (ltOf cf) 0 s d dk ∧ Runs (ltOf cf) z s dk ∧ Ex w.heap.size (some g) w wr) (fun vs _ => s - (intOf vs).toNat)
      case atStart => exact ⟨20, d1, rfl, Nat.le_refl _, by omega, HH1.out, R1.out.2.2, R1.out.2.1, R1.out.1, hE1⟩
      case round =>
        clear HH1 R1 hE1 hsz' hle has
        obtain ⟨z, dk, rfl, h20, hz2, hHk, hdk, hsm, hrn, hex⟩ := hrel
        have HHk := Lib.hid hHk
        have HD := Lib.hid (And.intro hdk (And.intro hsm hrn))
        clear hHk hdk hsm hrn
        have hsz' := hex.size
        obtain ⟨wo, rfl⟩ : ∃ wo : World, wo = wr := ⟨_, rfl⟩
        by_cases hlt : (z : Int) < s
        · go_wp2
          go_loopw [7, 8] (fun va vb wr => ∃ (n a : Nat) (dk : Array α), va = .int .i64 a ∧ vb = .int .i64 (a + 2 * z) ∧ a ≤ s ∧ HoldsK enc k wr g off dk ∧ dk.size = s ∧ SM (ltOf cf) 0 s d dk ∧ Mid (ltOf cf) z s n a dk ∧ Ex w.heap.size (some g) w wr) (fun va _ _ => s - (intOf va).toNat)
          case atStart => exact ⟨0, 0, dk, rfl, by first | rfl | (congr 1; omega), Nat.zero_le _, HHk.out, HD.out.1, HD.out.2.1, Mid.start HD.out.2.2, hex⟩
          case round =>
            clear HHk HD hex hsz'
            obtain ⟨n, a, dk, rfl, rfl, has, hHk, hdk, hsm, hmd, hex⟩ := hrel
            have HHk := Lib.hid hHk
            have HD := Lib.hid (And.intro hdk (And.intro hsm hmd))
            clear hHk hdk hsm hmd
            have hsz' := hex.size
            by_cases hle : (a : Int) + 2 * z ≤ s
            · go_wp2_with fail
              refine (HM.out (a + 2 * z - a) a (a + z) (a + 2 * z) _ _ _ dk _ rfl (by omega) (by omega) HHk.out (by omega) (by omega) (by omega) (by have := HD.out.1; omega) (Nat.le_refl _) HD.out.1
                (by have := HD.out.2.2.first; rwa [Nat.min_eq_left (by omega)] at this) (by have := HD.out.2.2.second; rwa [Nat.min_eq_left (by omega), show a + z + z = a + 2 * z by omega] at this)).mono ?_
              rintro e w1 ⟨rfl, d1, hH1, k1, s1, hex1⟩
              go_wp2
              go_roundw
              case rel => exact ⟨n + 1, a + 2 * z, d1, by go_num, by first | rfl | (congr 1; omega), by omega, hH1, k1.size.trans HD.out.1, HD.out.2.1.trans (k1.mono (Nat.zero_le _) (by omega)), HD.out.2.2.step k1 s1, hex.trans hex1 hsz' (fun q e _ => by cases e; rfl)⟩
              case measure => simp [intOf]; omega
            · by_cases hm : (a : Int) + z < s
              · go_wp2_with fail
                refine (HM.out (s - a) a (a + z) s _ _ _ dk _ rfl (by omega) rfl HHk.out (by omega) (by omega) (by omega) (by have := HD.out.1; omega) (Nat.le_refl _) HD.out.1
                  (by have := HD.out.2.2.first; rwa [Nat.min_eq_left (by omega)] at this) (by have := HD.out.2.2.second; rwa [Nat.min_eq_right (by omega)] at this)).mono ?_
                rintro e w1 ⟨rfl, d1, hH1, k1, s1, hex1⟩
                go_wp2
                go_roundw
                case rel => exact ⟨2 * z, d1, by first | rfl | (congr 1; omega), by omega, by omega, hH1, k1.size.trans HD.out.1, HD.out.2.1.trans (k1.mono (Nat.zero_le _) (Nat.le_refl _)), HD.out.2.2.close (by omega) k1 s1, hex.trans hex1 hsz' (fun q e _ => by cases e; rfl)⟩
                case measure => simp [intOf]; omega
              · go_wp2
                go_roundw
                case rel => exact ⟨2 * z, dk, by first | rfl | (congr 1; omega), by omega, by omega, HHk.out, HD.out.1, HD.out.2.1, HD.out.2.2.close (by omega) (SM.refl _ _ _ _) (by have := HD.out.2.2.first; rwa [Nat.min_eq_right (by omega)] at this), hex⟩
                case measure => simp [intOf]; omega
        · go_wp2
          go_end0
          have := HD.out
          refine ⟨rfl, dk, HHk.out, ⟨this.2.1.size, ?_, this.2.1.perm, this.2.1.kind⟩, hex⟩
          rw [HZ.out]; exact this.2.2.whole (by omega)

set_option maxHeartbeats 400000 in
theorem sortStableHeir_all {k : Nat} (L : LayHeir P k) (enc : α → List Value) (hk : ∀ x, (enc x).length = k) (h1 : ∀ x, ∀ v ∈ enc x, v.oneCell' = true) (cf : α → α → Int) (hS : SWO (ltOf cf)) (f : Nat) (cb : Array Value)
    (ef : ∀ args w, (callFunc f args).run P w = .ok (.enter f args) w) (hcmp : CmpAt P f cb enc cf) (g off cap : Nat) (s : Nat) (hsz : s < 1000000000000) (hI : InsOKHeir P k enc cf (.func (.func f) #[] cb) g off cap s) (d : Array α) (w : World) (hH : HoldsK enc k w g off d) (hg : g < w.heap.size) (hs : d.size = s)
    (fS : P.funcs[216]? = some Tryz.f216) :
    Calls P 216 #[.slice (some ⟨g, off, none⟩) s cap, .func (.func f) #[] cb] w fun e w' =>
      e = .returned (.tuple #[]) ∧ ∃ d', HoldsK enc k w' g off d' ∧ Stab (ltOf cf) d d' ∧ Ex w.heap.size (some g) w w' := by
  have h := stableHeir_all L enc hk h1 cf hS f cb ef hcmp g off cap s hsz hI _ rfl d w hH hg hs
  have mixed := L.mixed; have t0 := L.t0; have a0 := L.a0; have z0 := L.z0; have v0 := L.v0; have t1 := L.t1; have a1 := L.a1; have z1 := L.z1; have v1 := L.v1; have t2 := L.t2; have a2 := L.a2; have z2 := L.z2; have v2 := L.v2; have t3 := L.t3; have a3 := L.a3; have z3 := L.z3; have v3 := L.v3; have t4 := L.t4; have a4 := L.a4; have z4 := L.z4; have v4 := L.v4; have t5 := L.t5; have a5 := L.a5; have z5 := L.z5; have v5 := L.v5; have aE := L.aE; have zE := L.zE
  have eT : ∀ args w, (callFunc 289 args).run P w = .ok (.enter 289 args) w := enters_of L.fT (by kernel_rfl) rfl
  have HX := Lib.hid h
  clear h hI hk h1 hcmp hH hs ef hS
  go_enter fS, Tryz.ntmps216
  go_wp2_with fail
  refine HX.out.mono ?_
  rintro e w1 ⟨rfl, hp⟩
  go_wp2
  go_end0
  exact ⟨rfl, hp⟩
end Go.Proofs.YtaghfcnpnfhacaaGreat

namespace Go.Proofs.YtaghfcnpnfhacaaGreat
open Go.RowKit Go.Sort

theorem Tryz.infoHeir : (Tryz.prog.info? 25).map (fun i => (i.zero, i.size, i.bytes)) = some (some (.agg #[.int .i64 0, .int .i64 0]), 2, 16) := by kernel_rfl
theorem swo_byLost : SWO (ltOf byLost) := by
  refine ⟨fun x => ?_, fun x y z h1 h2 => ?_, fun x y z h1 h2 => ?_⟩
  · simp [ltOf, byLost, cmpI_lt]
  · simp only [ltOf, byLost, cmpI_lt, decide_eq_true_eq] at *; omega
  · simp only [ltOf, byLost, cmpI_lt, decide_eq_false_iff_not] at *; omega
theorem ltLost {x y : Int × Int} : ltOf byLost x y = decide (x.1 < y.1) := by
  rw [Bool.eq_iff_iff]; simp [ltOf, byLost, cmpI_lt]

def sameLost (x y : Int × Int) : Bool := x.1 == y.1

theorem rising_snoc {xs : List (Int × Int)} {y : Int × Int} (h : Rising xs) (hy : ∀ x ∈ xs, x.1 < y.1) : Rising (xs ++ [y]) := fun i j a b hij ha hb => by
  rcases Nat.lt_trichotomy j xs.length with hj | hj | hj
  · rw [List.getElem?_append_left (by omega)] at ha
    rw [List.getElem?_append_left hj] at hb
    exact h i j a b hij ha hb
  · subst hj
    rw [List.getElem?_append_left hij] at ha
    rw [List.getElem?_append_right (Nat.le_refl _)] at hb
    simp at hb
    subst hb
    exact hy a (List.mem_of_getElem? ha)
  · rw [List.getElem?_append_right (by omega)] at hb
    rw [List.getElem?_eq_none (by simp; omega)] at hb
    cases hb
/-- What is left of a row that is sorted by the lost key: rising, and of each key the first one. -/
theorem cpt_first (d : Array (Int × Int)) (hs : SortedIn (ltOf byLost) 0 d.size d) : ∀ n, n ≤ d.size → Rising (cpt sameLost d n) ∧ (∀ k, heirI (cpt sameLost d n) k = heirI (d.toList.take n) k) ∧ ∀ x ∈ cpt sameLost d n, ∀ m, m + 1 = n → x.1 ≤ (d[m]!).1
  | 0, _ => ⟨fun i j a b _ ha _ => by simp [cpt] at ha, fun k => by simp [cpt], fun x hx => by simp [cpt] at hx⟩
  | n + 1, hn => by
    obtain ⟨h1, h2, h3⟩ := cpt_first d hs n (by omega)
    have ht : d.toList.take (n + 1) = d.toList.take n ++ [d[n]!] := by
      rw [List.take_add_one]; congr 1
      rw [getElem!_pos d n (by omega)]; simp [show n < d.size by omega]
    have hle : ∀ x ∈ cpt sameLost d n, x.1 ≤ (d[n]!).1 := fun x hx => by
      rcases Nat.eq_zero_or_pos n with h0 | h0
      · subst h0; simp [cpt] at hx
      · have a := h3 x hx (n - 1) (by omega)
        have b := hs (n - 1) n (Nat.zero_le _) (by omega) (by omega)
        rw [ltLost] at b
        simp at b
        omega
    cases e : stays sameLost d n with
    | true =>
      rw [cpt_yes e]
      have hlt : ∀ x ∈ cpt sameLost d n, x.1 < (d[n]!).1 := fun x hx => by
        rcases Nat.eq_zero_or_pos n with h0 | h0
        · subst h0; simp [cpt] at hx
        · have a := h3 x hx (n - 1) (by omega)
          have b := hs (n - 1) n (Nat.zero_le _) (by omega) (by omega)
          rw [ltLost] at b
          simp at b
          have c : (d[n]!).1 ≠ (d[n - 1]!).1 := by
            unfold stays sameLost at e
            rw [decide_eq_false (by omega)] at e
            simpa using e
          omega
      refine ⟨rising_snoc h1 hlt, fun k => ?_, fun x hx m hm => ?_⟩
      · rw [ht]
        have a := h2 k
        unfold heirI at *
        rw [List.find?_append, List.find?_append]
        cases e1 : (cpt sameLost d n).find? (fun x => x.1 == k) <;> cases e2 : (d.toList.take n).find? (fun x => x.1 == k) <;> simp [e1, e2] at a ⊢
        exact a
      · obtain rfl : m = n := by omega
        simp only [List.mem_append, List.mem_singleton] at hx
        rcases hx with hx | hx
        · exact hle x hx
        · subst hx; exact Int.le_refl _
    | false =>
      rw [cpt_no e]
      refine ⟨h1, fun k => ?_, fun x hx m hm => by obtain rfl : m = n := (by omega); exact hle x hx⟩
      rw [h2 k, ht]
      have h0 : 0 < n := by
        rcases Nat.eq_zero_or_pos n with h0 | h0
        · subst h0; simp [stays] at e
        · exact h0
      have c : (d[n]!).1 = (d[n - 1]!).1 := by
        unfold stays sameLost at e
        rw [decide_eq_false (by omega)] at e
        simpa using e
      unfold heirI
      rw [List.find?_append]
      cases e2 : (d.toList.take n).find? (fun x => x.1 == k) with
      | some y => simp
      | none =>
        rw [List.find?_eq_none] at e2
        have hm : d[n - 1]! ∈ d.toList.take n := by
          rw [getElem!_pos d (n - 1) (by omega)]
          refine List.mem_iff_getElem.2 ⟨n - 1, by simp; omega, by simp⟩
        have := e2 _ hm
        have hne : ((d[n]!).1 == k) = false := by rw [c]; simpa using this
        simp [hne]
/-- A stable sort keeps of each key the first one. -/
theorem stab_heir {d d' : Array (Int × Int)} (h : Stab (ltOf byLost) d d') (k : Int) : heirI d'.toList k = heirI d.toList k := by
  have := h.2.2.2 (fun x => x.1 == k) (fun x y hx hy => by rw [ltLost]; simp at hx hy ⊢; omega)
  unfold heirI
  rw [← List.head?_filter, ← List.head?_filter, this]

theorem insOK_heir (g off cap s : Nat) (hs : s < 4611686018427387904) : InsOKHeir Tryz.prog 2 encH byLost (.func (.func 217) #[] #[]) g off cap s := fun a b A B d w hA hB hH hg hab hb hd => by
  have h := ins_sm swo_byLost d a b hab hb
  refine (insHeir_any g off cap a b s A B hA hB d w hH hg hab hb (by omega) hd).mono ?_
  rintro e w' ⟨rfl, m, os, rfl⟩
  exact ⟨rfl, _, holdsK_sortWorldK_c encH 2 w g off d _ m os hH hg h.1.size, h.1, h.2, ex_sortWorldK encH 2 w g off m _ os⟩
theorem cmpAt_lost : CmpAt Tryz.prog 217 #[] encH byLost := fun w x y => byLost_any x y w
theorem eqAt_lost : EqAtHeir Tryz.prog 219 #[] encH sameLost := fun w x y => sameLost_any x y w

theorem sl_holdsK {P : Nat → Prop} {w : World} {g : Nat} {xs : List (Int × Int)} (hP : P g) (h : HoldsK encH 2 w g 0 xs.toArray) : SlAt heirRep P w (some ⟨g, 0, none⟩) xs := fun i hi => by
  refine ⟨g, 0, encH xs[i], rfl, hP, ?_, rfl⟩
  have := holdsK_range (enc := encH) (k := 2) (fun _ => rfl) h i (by simpa using hi)
  rwa [getElem!_pos xs.toArray i hi, List.getElem_toArray] at this
theorem sl_cells {P : Nat → Prop} {w : World} {ao : Option Addr} {xs : List (Int × Int)} (h : SlAt heirRep P w ao xs) : xs.length = 0 ∨ ∃ ad, ao = some ad ∧ ∀ j v, (flatL encH xs)[j]? = some v → w.cell? (ad.add j) = some v := by
  rcases Nat.eq_zero_or_pos xs.length with h0 | h0
  · exact Or.inl h0
  · obtain ⟨b, off, _, e, _, _, _⟩ := h 0 h0
    refine Or.inr ⟨_, e, fun j v hv => ?_⟩
    have hl := flatL_len (enc := encH) (k := 2) (fun _ => rfl) xs
    have hj := (List.getElem?_eq_some_iff.1 hv).1
    have hi : j / 2 < xs.length := by omega
    obtain ⟨b', off', cs, e', _, hr, hR⟩ := h (j / 2) hi
    rw [e] at e'; cases e'
    have hg := flatL_get (enc := encH) (k := 2) (fun _ => rfl) xs (j / 2) (j % 2) hi (by omega)
    rw [show j / 2 * 2 + j % 2 = j by omega, hv] at hg
    have hcs : cs = encH xs[j / 2] := hR
    have := hr (j % 2) v (by rw [hcs]; exact hg.symm)
    rw [Addr.add_lit]
    rw [show off + j = off + j / 2 * 2 + j % 2 by omega]
    exact this

set_option maxHeartbeats 1000000 in
set_option maxRecDepth 100000 in
theorem sorted_any {P : Nat → Prop} {v : Value} {hs : List (Int × Int)} (w : World) (hv : Sl heirRep P w v hs) (hm : hs.length ≤ 1000000) :
    Calls Tryz.prog 142 #[v] w fun e w' => ∃ (g : Nat) (d : List (Int × Int)) (cap : Nat), e = .returned (.slice (some ⟨g, 0, none⟩) d.length cap) ∧ w.heap.size ≤ g ∧ HoldsK encH 2 w' g 0 d.toArray ∧ Rising d ∧ d.length ≤ hs.length ∧ (∀ k, heirI d k = heirI hs k) ∧ Ex w.heap.size none w w' := by
  obtain ⟨ao, cap, rfl, hx⟩ := hv
  have HX := Lib.hid (sl_cells hx)
  have HL := Lib.hid (flatL_len (enc := encH) (k := 2) (fun _ => rfl) hs)
  clear hx
  obtain ⟨cs, hcs⟩ : ∃ c, c = flatL encH hs := ⟨_, rfl⟩
  have HCS := Lib.hid hcs
  rw [← hcs] at HX HL
  clear hcs
  obtain ⟨i0, hi, hz0, hz1, hz2⟩ := info_parts Tryz.infoHeir
  have hsz : (Tryz.prog.info? 25).map (·.size) = some 2 := by rw [hi]; simp [hz1]
  go_enter Tryz.func142, Tryz.ntmps142
  go_wp2_with (first
    | (at_make; refine wpList_make_full _ rfl (.tmp 5) (.tmp 5) _ rfl w.heap.size 25 i0 _ 2 Tryz.underlying42 hi hz0 hz1 .i64 .i64 _ _ hs.length rfl rfl rfl rfl (by rw [hz2]; omega) (by unfold maxLen; omega) (Nat.le_refl _) ?_; intro w1 hown1 hgr1; have hg1 := (own_there hown1).2.2.1; have HO := Lib.hid hown1; have HG := Lib.hid hgr1; clear hown1 hgr1)
    | (refine wpList_copy_k rfl (.tmp 7) (.tmp 8) _ _ rfl 25 Tryz.underlying42 2 hsz w.heap.size 0 hs.length hs.length ao cap (by rfl) (by rfl) cs HL.out (copy_from HX.out HG.out (by simp)) (fun j hj => own_some HO.out j (by rw [← HL.out]; exact hj)) (fun j _ => own_frozen HO.out j) (by rw [HCS.out]; exact flatL_one one_encH hs) ?_))
  have hH2 : HoldsK encH 2 (w1.setCells w.heap.size 0 cs) w.heap.size 0 hs.toArray := by
    rw [HCS.out]
    exact holdsK_setAll (enc := encH) (k := 2) (fun _ => rfl) (fun j hj => own_some HO.out j hj) (fun j hj => own_frozen HO.out j)
  have hE2 : Ex w.heap.size none w (w1.setCells w.heap.size 0 cs) := ((Ex.refl w.heap.size none w).grown HG.out (Nat.le_refl _) (by simp)).trans (((ex_setCells w1 w.heap.size 0 cs).mono (Nat.le_of_lt hg1)).above (Nat.le_refl _)) (Nat.le_refl _) (by simp)
  have hg2 : w.heap.size < (w1.setCells w.heap.size 0 cs).heap.size := by rw [size_setCells]; exact hg1
  have HH2 := Lib.hid hH2
  clear hH2
  generalize w1.setCells w.heap.size 0 cs = w2 at *
  refine (sortStableHeir_all layHeir encH (fun _ => rfl) one_encH byLost swo_byLost 217 #[] (enters_of Tryz.func217 (by kernel_rfl) rfl) cmpAt_lost w.heap.size 0 hs.length hs.length (by omega) (insOK_heir _ _ _ _ (by omega)) hs.toArray w2 HH2.out hg2 (by simp) Tryz.func216).mono ?_
  rintro e w3 ⟨rfl, d3, hH3, hst, hex3⟩
  have HST := Lib.hid (And.intro hH3 hst)
  have hz3 := hex3.size
  clear hH3 hst
  go_wp2_with fail
  refine (compactHeir_any layHeir encH (fun _ => rfl) one_encH sameLost 219 #[] (enters_of Tryz.func219 (by kernel_rfl) rfl) eqAt_lost Tryz.func218 #[.int .i64 0, .int .i64 0] Tryz.zeroValue25 rfl (by simp [Value.oneCell']) Tryz.underlying228 Tryz.isAgg228 Tryz.sizeOf228 w.heap.size 0 hs.length hs.length d3 w3 HST.out.1 (by omega) (by have := HST.out.2.1; simp at this; omega) (by have := HST.out.2.1; simp at this; omega) (by have := HST.out.2.1; simpa using this)).mono ?_
  rintro e w4 ⟨rfl, hH4, hex4⟩
  go_wp2
  go_ret
  have hds : d3.size = hs.length := by have := HST.out.2.1; simpa using this
  have hsrt := HST.out.2.2.1
  obtain ⟨c1, c2, _⟩ := cpt_first d3 (by rw [hds]; simpa using hsrt) hs.length (by omega)
  refine ⟨w.heap.size, cpt sameLost d3 hs.length, hs.length, rfl, Nat.le_refl _, hH4, c1, cpt_le _ _ _, fun k => ?_, ?_⟩
  · rw [c2, List.take_of_length_le (by simp; omega), stab_heir HST.out.2]
  · have e3 := hE2.trans (hex3.mono (Nat.le_of_lt hg2) |>.above (Nat.le_refl _)) (Nat.le_refl _) (by simp)
    exact e3.trans ((hex4.mono (show w.heap.size ≤ w3.heap.size by omega)).above (Nat.le_refl _)) (Nat.le_refl _) (by simp)
end Go.Proofs.YtaghfcnpnfhacaaGreat

namespace Go.Proofs.YtaghfcnpnfhacaaGreat
open Go.RowKit Go.Sort

theorem heirI_mem {d : List (Int × Int)} (h : Rising d) {i : Nat} {x y : Int} (hi : d[i]? = some (x, y)) : heirI d x = some y := by
  unfold heirI
  cases e : d.find? (fun z => z.1 == x) with
  | none =>
    rw [List.find?_eq_none] at e
    have := e _ (List.mem_of_getElem? hi)
    simp at this
  | some z =>
    have h1 := List.mem_of_find?_eq_some e
    have h2 := List.find?_some e
    obtain ⟨j, hj⟩ := List.getElem?_of_mem h1
    simp at h2
    rcases Nat.lt_trichotomy i j with h' | h' | h'
    · have := h i j _ _ h' hi hj; simp at this; omega
    · subst h'; rw [hi] at hj; cases hj; rfl
    · have := h j i _ _ h' hj hi; simp at this; omega
theorem heirI_not {d : List (Int × Int)} {x : Int} (h : ∀ a ∈ d, a.1 ≠ x) : heirI d x = none := by
  unfold heirI
  rw [List.find?_eq_none.2 (fun a ha => by simpa using h a ha)]; rfl

/-- The search's answer in two parts. -/
theorem found_cases {d : List (Int × Int)} (hr : Rising d) {x : Int} {e : Ending} (h : Found d x e) : (∃ (i : Nat) (y : Int), e = .returned (.tuple #[.int .i64 i, .bool true]) ∧ i < d.length ∧ heirI d x = some y ∧ d[i]? = some (x, y)) ∨ (∃ i, e = .returned (.tuple #[.int .i64 i, .bool false]) ∧ heirI d x = none) := by
  rcases h with ⟨i, y, h1, h2, h3⟩ | ⟨i, h1, h2⟩
  · refine Or.inl ⟨i.toNat, y, by rw [h1, Int.toNat_of_nonneg h2], (List.getElem?_eq_some_iff.1 h3).1, heirI_mem hr h3, h3⟩
  · exact Or.inr ⟨i, h1, heirI_not h2⟩

set_option maxHeartbeats 1000000 in
set_option maxRecDepth 100000 in
theorem follow_any {P : Nat → Prop} {v : Value} {hs : List (Int × Int)} (k : Int) (w : World) (hv : Sl heirRep P w v hs) (hm : hs.length ≤ 1000000) :
    Calls Tryz.prog 61 #[v, .int .i64 k] w fun e w' => e = .returned (.int .i64 (followI (heirI hs) k)) ∧ Ex w.heap.size none w w' := by
  obtain ⟨v0, hv0⟩ : ∃ x, x = v := ⟨_, rfl⟩
  subst hv0
  go_enter Tryz.func61, Tryz.ntmps61
  go_wp2_with fail
  refine (sorted_any w hv hm).mono ?_
  rintro e w1 ⟨g, d, dc, rfl, hgw, hH, hR, hdl, hE, hex0⟩
  have HH := Lib.hid hH
  have HR := Lib.hid hR
  have HE : Hid (∀ k, heirI d k = heirI hs k) := hE
  clear hH hR hE hv
  have hsz0 := hex0.size
  have hgl : d.length = 0 ∨ g < w1.heap.size := by
    rcases Nat.eq_zero_or_pos d.length with h0 | h0
    · exact Or.inl h0
    · right
      have := (HoldsK.cell HH.out (i := 0) (c := 0) (by simpa using h0) (by omega)).1
      exact World.block_lt_of_cell? w1 _ this
  go_wp2
  go_loopw [6, 7] (fun v a wr => ∃ (met : List Int) (ro : Option Addr) (rc : Nat) (y : Int), v = .slice ro met.length rc ∧ a = .int .i64 y ∧ Hid (met.getD (met.length - 1) 0 = y) ∧ OwnI wr w1.heap.size ro rc met ∧ Ex w1.heap.size none w1 wr ∧ 1 ≤ met.length ∧ met.length ≤ 17 ∧ Hid (followF (heirI hs) k (18 - met.length) met = followI (heirI hs) k)) (fun v _ _ => 18 - (match v with | .slice _ n _ => n | _ => 0))
  case atStart => exact ⟨[k], some ⟨w1.heap.size, 0, none⟩, 1, k, rfl, rfl, rfl, World.ownsRow_lit w1 #[.int .i64 k] 1 (Nat.le_refl _) (by decide) rfl, Ex.new _ _, by simp, by simp, rfl⟩
  case round =>
    obtain ⟨met, ro, rc, y, rfl, rfl, HY, hown, hex, h1, h17, HF⟩ := hrel
    have hsz := hex.size
    have hi := hown.v
    have fH : HoldsK encH 2 wr g 0 d.toArray := by
      rcases hgl with h0 | h0
      · obtain rfl : d = [] := List.eq_nil_of_length_eq_zero h0
        intro j hj; simp [flatK] at hj
      · exact holdsK_ex HH.out (hex.block g h0 (by simp))
    have fv : Sl heirRep (fun _ => True) wr (.slice (some ⟨g, 0, none⟩) d.length dc) d := ⟨_, _, rfl, sl_holdsK trivial fH⟩
    have HHr := Lib.hid fH
    clear fH
    go_wp2_with fail
    refine (heirSearch_any y wr fv (by omega) HR.out).mono ?_
    rintro e w2 ⟨hfd, hex2⟩
    have hsz2 := hex2.size
    have hown2 := hown.keep hex2 (Nat.le_refl _) (by simp)
    have hE2 := hex.trans hex2 hsz (by simp)
    rcases found_cases HR.out hfd with ⟨i, x, rfl, hlt, hx, hget⟩ | ⟨i, rfl, hx⟩
    · have hc1 : w2.cell? ⟨g, 0 + i * 2 + 1, none⟩ = some (.int .i64 x) := by
        have h0 := HoldsK.cell HHr.out (i := i) (c := 1) (by simpa using hlt) (by omega)
        have hg2 := World.block_lt_of_cell? wr _ h0.1
        rw [← World.cell?_of_block (w := wr) (w' := w2) (a := ⟨g, 0 + i * 2 + 1, none⟩) (hex2.block g hg2 (by simp))] at h0
        rw [h0.1]
        have : d.toArray[i]! = (y, x) := by
          rw [getElem!_pos d.toArray i (by simpa using hlt), List.getElem_toArray]
          exact (List.getElem?_eq_some_iff.1 hget).2
        rw [this]; rfl
      rw [Nat.zero_add] at hc1
      have HX : Hid (heirI hs y = some x) := by have := HE.out y; rw [hx] at this; exact this.symm
      clear hx hget hfd
      have hiz : (i : Int) < d.length := by omega
      have hi2 := hown2.v
      by_cases h2 : hasI met x = true
      · have HRR := Lib.hid (followF_stop (k := k) (n := 18 - met.length) HY.out HX.out (Or.inl h2))
        go_wp2_with fail
        refine (asB (contains_any _ _ _ _ hi2 (by omega)) h2).mono ?_
        rintro e w' ⟨rfl, rfl⟩
        go_wp2
        go_ret
        exact ⟨ret_int (by rw [← HF.out, HRR.out]), hex0.trans hE2 hsz0 (by simp)⟩
      · have h2' : hasI met x = false := Bool.eq_false_iff.2 h2
        by_cases h3 : (16 : Int) < met.length
        · have HRR := Lib.hid (followF_stop (k := k) (n := 18 - met.length) HY.out HX.out (Or.inr (by omega)))
          have hd : decide ((16 : Int) < met.length) = true := decide_eq_true h3
          go_wp2_with fail
          refine (asB (contains_any _ _ _ _ hi2 (by omega)) h2').mono ?_
          rintro e w' ⟨rfl, rfl⟩
          go_wp2
          go_ret
          exact ⟨ret_int (by rw [← HF.out, HRR.out]), hex0.trans hE2 hsz0 (by simp)⟩
        · have HRR := Lib.hid (followF_step (k := k) (n := 18 - met.length) HY.out HX.out (by rw [h2']; simp; omega) (by omega))
          have hd : decide ((16 : Int) < met.length) = false := decide_eq_false h3
          go_wp2_with fail
          refine (asB (contains_any _ _ _ _ hi2 (by omega)) h2').mono ?_
          rintro e w' ⟨rfl, rfl⟩
          go_wp2_with (at_builtin; refine wpList_appI (w0 := w2) rfl _ _ _ rfl Tryz.underlying22 Tryz.infoInt w1.heap.size ro rc _ w2.heap.size x rfl rfl hown2 (Ex.new _ _) (by go_simp) (by omega) (by omega) ?_; intro ro' rc' w3 hown3 hex3)
          go_roundw
          case rel => exact ⟨met ++ [x], ro', rc', x, by rw [List.length_append]; rfl, rfl, by show _ = _; simp, hown3, hE2.trans hex3 (Nat.le_refl _) (by simp), by simp, by simp; omega, by
            show _ = _
            rw [show 18 - (met ++ [x]).length = 18 - met.length - 1 by simp; omega, ← HRR.out, HF.out]⟩
          case measure => simp <;> omega
    · have HX : Hid (heirI hs y = none) := by have := HE.out y; rw [hx] at this; exact this.symm
      have HRR := Lib.hid (followF_end (k := k) HY.out HX.out (show 0 < 18 - met.length by omega))
      clear hx hfd
      go_wp2
      go_ret
      exact ⟨ret_int (by rw [← HF.out, HRR.out]), hex0.trans hE2 hsz0 (by simp)⟩
end Go.Proofs.YtaghfcnpnfhacaaGreat

namespace Go.Proofs.YtaghfcnpnfhacaaGreat
open Go.RowKit Go.Sort

theorem keyH_iff {n : Int} : keyH n = true ↔ 0 ≤ n ∧ n < 64 := by simp [keyH]
/-- What the program gathers: the keys among what the keys lead to. -/
def gath (f : Int → Option Int) (l : List Int) (k : Nat) : List Int := (replTo f l k).filter keyH
theorem gath_le (f : Int → Option Int) (l : List Int) (k : Nat) : (gath f l k).length ≤ k := Nat.le_trans (List.length_filter_le _ _) (replTo_le f l k)
theorem gath_yes {f : Int → Option Int} {l : List Int} {k : Nat} {y : Int} (hy : l.getD k 0 = y) (h : keyH y = true) (h2 : keyH (followI f y) = true) : gath f l (k + 1) = gath f l k ++ [followI f y] := by
  unfold gath
  rw [replTo_yes hy (keyH_iff.1 h).1 (keyH_iff.1 h).2, List.filter_append]
  simp [h2]
theorem gath_out {f : Int → Option Int} {l : List Int} {k : Nat} {y : Int} (hy : l.getD k 0 = y) (h : keyH y = true) (h2 : keyH (followI f y) = false) : gath f l (k + 1) = gath f l k := by
  unfold gath
  rw [replTo_yes hy (keyH_iff.1 h).1 (keyH_iff.1 h).2, List.filter_append]
  simp [h2]
theorem gath_no {f : Int → Option Int} {l : List Int} {k : Nat} {y : Int} (hy : l.getD k 0 = y) (h : keyH y = false) : gath f l (k + 1) = gath f l k := by
  unfold gath
  rw [replTo_no hy (by rw [← keyH_iff, h]; simp)]
theorem gath_uniq (f : Int → Option Int) (l : List Int) : uniq (gath f l l.length) = replI f l := by
  rw [uniq_keys _ (fun x hx => by unfold gath at hx; exact keyH_iff.1 (List.mem_filter.1 hx).2)]
  refine strict_ext _ _ (keysTo_strict _ _) (keysTo_strict _ _) fun x => ?_
  unfold replI joinI gath
  rw [mem_keysTo, mem_keysTo]
  simp only [hasI_nil, Bool.or_false, hasI_iff, List.mem_filter, keyH_iff]
  constructor
  · rintro ⟨a, b, c, d⟩; exact ⟨a, b, c⟩
  · rintro ⟨a, b, c⟩; exact ⟨a, b, c, a, by omega⟩

set_option maxHeartbeats 1000000 in
theorem replace_any {P : Nat → Prop} {v u : Value} {hs : List (Int × Int)} {l : List Int} (w : World) (hu : Ints w u l) (hv : Sl heirRep P w v hs) (hm : hs.length ≤ 1000000) (hl : l.length ≤ 1000000) :
    Calls Tryz.prog 62 #[u, v] w fun e w' => ∃ ro rc, e = .returned (.slice ro (replI (heirI hs) l).length rc) ∧ IntsAt w' ro (replI (heirI hs) l) ∧ Ex w.heap.size none w w' := by
  have hv0 := hv
  obtain ⟨ho, hcap, rfl, hx⟩ := hv
  obtain ⟨ao, cap, rfl, hli⟩ := hu
  clear hx
  go_enter Tryz.func62, Tryz.ntmps62
  go_wp2
  go_loopw [5, 11] (fun v i wr => ∃ (k : Nat) (ro : Option Addr) (rc : Nat), k ≤ l.length ∧ i = .int .i64 k ∧ v = .slice ro (gath (heirI hs) l k).length rc ∧ OwnI wr w.heap.size ro rc (gath (heirI hs) l k) ∧ Ex w.heap.size none w wr) (fun _ i _ => l.length - (intOf i).toNat)
  case atStart => exact ⟨0, none, 0, by omega, rfl, rfl, OwnI.nil _ _, Ex.refl _ _ _⟩
  case round =>
    obtain ⟨k, ro, rc, hk, rfl, rfl, hown, hex⟩ := hrel
    have hle := gath_le (heirI hs) l k
    have hsz := hex.size
    have hx1 := hli.keep hex (Nat.le_refl _) (by simp)
    have fv := hv0.keep (by decide) (fun b _ hb => hex.block b hb (by simp))
    by_cases hlt : k < l.length
    · obtain ⟨b, off, y, rfl, hck, HY⟩ := hx1.get k hlt
      cases hky : keyH y with
      | true =>
        have HKY := Lib.hid hky
        clear hky
        cases hkn : keyH (followI (heirI hs) y) with
        | true =>
          have HK := Lib.hid (gath_yes (f := heirI hs) HY.out HKY.out hkn)
          have HKN := Lib.hid hkn
          clear hkn
          go_wp2_with fail
          refine (asB (key_any _ _) HKY.out).mono ?_
          rintro e w' ⟨rfl, rfl⟩
          go_wp2_with fail
          refine (follow_any _ _ fv hm).mono ?_
          rintro e w2 ⟨rfl, hex2⟩
          have hsz2 := hex2.size
          have hown2 := hown.keep hex2 (Nat.le_refl _) (by simp)
          go_wp2_with fail
          refine (asB (key_any _ _) HKN.out).mono ?_
          rintro e w' ⟨rfl, rfl⟩
          go_wp2_with (at_builtin; refine wpList_appI (w0 := w2) rfl _ _ _ rfl Tryz.underlying22 Tryz.infoInt w.heap.size ro rc _ w2.heap.size (followI (heirI hs) y) rfl rfl hown2 (Ex.new _ _) (by go_simp) (by omega) (by omega) ?_; intro ro' rc' w1 hown1 hex1)
          go_roundw
          case rel => exact ⟨k + 1, ro', rc', by omega, by go_num, by rw [HK.out, List.length_append]; rfl, by rw [HK.out]; exact hown1, (hex.trans hex2 (by omega) (by simp)).trans hex1 (Nat.le_refl _) (by simp)⟩
          case measure => simp [intOf] <;> omega
        | false =>
          have HK := Lib.hid (gath_out (f := heirI hs) HY.out HKY.out hkn)
          have HKN := Lib.hid hkn
          clear hkn
          go_wp2_with fail
          refine (asB (key_any _ _) HKY.out).mono ?_
          rintro e w' ⟨rfl, rfl⟩
          go_wp2_with fail
          refine (follow_any _ _ fv hm).mono ?_
          rintro e w2 ⟨rfl, hex2⟩
          have hsz2 := hex2.size
          have hown2 := hown.keep hex2 (Nat.le_refl _) (by simp)
          go_wp2_with fail
          refine (asB (key_any _ _) HKN.out).mono ?_
          rintro e w' ⟨rfl, rfl⟩
          go_wp2
          go_roundw
          case rel => exact ⟨k + 1, ro, rc, by omega, by go_num, by rw [HK.out], by rw [HK.out]; exact hown2, hex.trans hex2 (by omega) (by simp)⟩
          case measure => simp [intOf] <;> omega
      | false =>
        have HK := Lib.hid (gath_no (f := heirI hs) HY.out hky)
        have HKY := Lib.hid hky
        clear hky
        go_wp2_with fail
        refine (asB (key_any _ _) HKY.out).mono ?_
        rintro e w' ⟨rfl, rfl⟩
        go_wp2
        go_roundw
        case rel => exact ⟨k + 1, ro, rc, by omega, by go_num, by rw [HK.out], by rw [HK.out]; exact hown, hex⟩
        case measure => simp [intOf] <;> omega
    · obtain rfl : k = l.length := by omega
      go_wp2_with fail
      refine (sortInts_any ro rc _ w.heap.size _ wr hown rfl (by omega)).mono ?_
      rintro e w2 ⟨rfl, hex2, hsd⟩
      have HSD := Lib.hid hsd
      clear hsd
      have hsz2 := hex2.size
      go_wp2_with fail
      refine (compactInts_any ro rc _ w.heap.size _ w2 rfl (by omega) HSD.out (by omega)).mono ?_
      rintro e w3 ⟨rfl, hex3, hints⟩
      go_wp2
      go_ret
      rw [gath_uniq] at hints
      exact ⟨ro, rc, by rw [gath_uniq]; rfl, hints, (hex.trans hex2 (Nat.le_refl _) (by simp)).trans hex3 (Nat.le_refl _) (by simp)⟩
end Go.Proofs.YtaghfcnpnfhacaaGreat

namespace Go.Proofs.YtaghfcnpnfhacaaGreat
open Go.RowKit Go.Sort

theorem heirs_lit (w : World) (xs : List (Int × Int)) (n : Nat) (hn : n = xs.length) (cs : Array Value) (hc : cs.toList = flatL encH xs) (t : TypeId) {g : Nat} (hg : g = w.heap.size) : Sl heirRep (fun b => b = w.heap.size) (w.alloc (.cells cs t)) (.slice (some ⟨g, 0, none⟩) n n) xs := by
  subst hn hg
  refine ⟨_, _, rfl, sl_holdsK rfl (holdsK_flat (enc := encH) (k := 2) (fun _ => rfl) (fun j v hv => ?_) (fun j hj => ?_))⟩
  · rw [Nat.zero_add, cell_of_row _ _ _ _ _ _ (heap_alloc_new w _)]
    rw [← hc] at hv; simpa using hv
  · rw [Nat.zero_add]; unfold World.frozen?; rw [heap_alloc_new]; simp

set_option maxHeartbeats 1000000 in
theorem awake35_any (w : World) : Calls Tryz.prog 12 #[] w fun e w' => e = .returned (.bool true) ∧ Ex w.heap.size none w w' := by
  have fv := heirs_lit w [(1, 4), (4, 6)] 2 rfl #[.int .i64 1, .int .i64 4, .int .i64 4, .int .i64 6] rfl 25 rfl
  go_enter Tryz.func12, Tryz.ntmps12
  have hA := Ex.refl w.heap.size none w
  go_wp2_with fail
  obtain ⟨w0, hw0⟩ : ∃ w0 : World, w0 = w.alloc (.cells #[.int .i64 1, .int .i64 4, .int .i64 4, .int .i64 6] 25) := ⟨_, rfl⟩
  have hE0 : Ex w.heap.size none w w0 := by rw [hw0]; exact Ex.new _ _
  have hS0 : w.heap.size + 1 = w0.heap.size := by rw [hw0]; simp
  rw [← hw0] at fv
  rw [← hw0]
  clear hw0
  replace hA := hE0
  have HS0 := Lib.hid hS0
  have hS0' : w.heap.size < w0.heap.size := by omega
  clear hS0
  refine (follow_any _ _ fv (by decide)).mono ?_
  rintro e w1 ⟨rfl, hex1⟩
  have hE1 : Ex w0.heap.size none w0 w1 := (Ex.weaken (by repeat (first | exact Ex.refl _ _ _ | refine Ex.alloc ?_ (by simp <;> omega) _ | refine Ex.drewN ?_ | refine Ex.drew ?_)) _).trans hex1 (by simp <;> omega) (by simp)
  have hS1 := hE1.size
  replace fv := fv.keep (by decide) (fun b _ hb => hE1.block b hb (by simp))
  replace hA := hA.trans hE1 (by omega) (by simp)
  clear hex1 hE1
  go_wp2_with fail
  refine (follow_any _ _ fv (by decide)).mono ?_
  rintro e w2 ⟨rfl, hex2⟩
  have hE2 : Ex w1.heap.size none w1 w2 := (Ex.weaken (by repeat (first | exact Ex.refl _ _ _ | refine Ex.alloc ?_ (by simp <;> omega) _ | refine Ex.drewN ?_ | refine Ex.drew ?_)) _).trans hex2 (by simp <;> omega) (by simp)
  have hS2 := hE2.size
  replace fv := fv.keep (by decide) (fun b _ hb => hE2.block b hb (by simp))
  replace hA := hA.trans hE2 (by omega) (by simp)
  clear hex2 hE2
  go_wp2_with fail
  refine (replace_any (l := [1, 2, 4]) _ (Ints.lit [1, 2, 4] (by simp) rfl) (fv.keep (by decide) (fun b _ hb => (Ex.new _ _).block b hb (by simp))) (by decide) (by decide)).mono ?_
  rintro e w3 ⟨ro, rc, rfl, hown, hex3⟩
  have hE3 : Ex w2.heap.size none w2 w3 := (Ex.weaken (by repeat (first | exact Ex.refl _ _ _ | refine Ex.alloc ?_ (by simp <;> omega) _ | refine Ex.drewN ?_ | refine Ex.drew ?_)) _).trans hex3 (by simp <;> omega) (by simp)
  have hS3 := hE3.size
  replace fv := fv.keep (by decide) (fun b _ hb => hE3.block b hb (by simp))
  replace hA := hA.trans hE3 (by omega) (by simp)
  have f1 : Ints w3 _ _ := ⟨ro, rc, rfl, hown⟩
  clear hown
  clear hex3 hE3
  go_wp2_with fail
  refine (asB (sameInts_any _ _ _ _ _ (f1.keep (Ex.new _ _) (Nat.le_refl _)) (Ints.lit [2, 6] (by simp) rfl) (by decide)) (b := true) (by decide)).mono ?_
  rintro e w4 ⟨rfl, hex4⟩
  have hE4 : Ex w3.heap.size none w3 w4 := (Ex.weaken (by repeat (first | exact Ex.refl _ _ _ | refine Ex.alloc ?_ (by simp <;> omega) _ | refine Ex.drewN ?_ | refine Ex.drew ?_)) _).trans hex4 (by simp <;> omega) (by simp)
  have hS4 := hE4.size
  replace fv := fv.keep (by decide) (fun b _ hb => hE4.block b hb (by simp))
  replace f1 := f1.keep hE4 (Nat.le_refl _)
  replace hA := hA.trans hE4 (by omega) (by simp)
  clear hex4 hE4
  go_wp2_with fail
  go_ret
  exact ⟨rfl, hA⟩
end Go.Proofs.YtaghfcnpnfhacaaGreat

namespace Go.Proofs.YtaghfcnpnfhacaaGreat
open Go.RowKit Go.Sort

/-- Heirs as the law makes them: each leads from a key below 10 to a greater one, at most 14. -/
def Good (hs : List (Int × Int)) : Prop := ∀ p ∈ hs, 0 ≤ p.1 ∧ p.1 < 10 ∧ p.1 < p.2 ∧ p.2 ≤ 14
theorem Good.nil : Good [] := fun p hp => by simp at hp
theorem Good.snoc {hs : List (Int × Int)} (h : Good hs) {x : Int × Int} (h0 : 0 ≤ x.1) (h1 : x.1 < 10) (h2 : x.1 < x.2) (h3 : x.2 ≤ 14) : Good (hs ++ [x]) := fun p hp => by
  simp only [List.mem_append, List.mem_singleton] at hp
  rcases hp with hp | rfl
  · exact h p hp
  · exact ⟨h0, h1, h2, h3⟩
theorem heirI_some {hs : List (Int × Int)} {k x : Int} (h : heirI hs k = some x) : (k, x) ∈ hs := by
  unfold heirI at h
  cases e : hs.find? (fun z => z.1 == k) with
  | none => rw [e] at h; cases h
  | some z =>
    rw [e] at h
    have h1 := List.mem_of_find?_eq_some e
    have h2 := List.find?_some e
    simp at h h2
    obtain ⟨a, b⟩ := z
    simp at h h2
    subst h h2
    exact h1
def Up (f : Int → Option Int) : Prop := ∀ k x, f k = some x → 0 ≤ k ∧ k < 10 ∧ k < x ∧ x ≤ 14
theorem Good.up {hs : List (Int × Int)} (h : Good hs) : Up (heirI hs) := fun k x e => h (k, x) (heirI_some e)

theorem someTo_mem {d : List Int} {k : Nat} {x : Int} (h : x ∈ (someTo d k).1) : 0 ≤ x ∧ x < k := by
  induction k with
  | zero => simp [someTo] at h
  | succ k ih =>
    simp only [someTo, List.mem_append] at h
    rcases h with h | h
    · have := ih h; omega
    · split at h
      · simp at h; omega
      · simp at h
theorem keysD_mem {d : List Int} {n : Int} (hn : 1 ≤ n) {x : Int} (h : x ∈ (keysD d n).1) : 0 ≤ x ∧ x < n := by
  unfold keysD at h
  split at h
  · simp at h; subst h; exact dVal_bd hn
  · have := someTo_mem h; omega
theorem keysD_len (d : List Int) {n : Int} (hn : 1 ≤ n) : ((keysD d n).1.length : Int) ≤ n := by
  unfold keysD
  split
  · simp; omega
  · have := someTo_le d n.toNat; omega
end Go.Proofs.YtaghfcnpnfhacaaGreat

/- slices.symMergeCmpFunc at trustflow/api.Heir, a case of its general part, over whatever program that bears it: a contract, no statement of the seat. -/
import Derived.Test.YtaghfcnpnfhacaaGreatMg02
namespace Go.Proofs.YtaghfcnpnfhacaaGreat
open Go.RowKit Go.Sort
variable {P : Program} {α : Type} [Inhabited α]

set_option maxHeartbeats 16000000 in
set_option maxRecDepth 1000000 in
theorem symBigHeir {k : Nat} (L : LayHeir P k) (enc : α → List Value) (hk : ∀ x, (enc x).length = k) (h1 : ∀ x, ∀ v ∈ enc x, v.oneCell' = true) (cf : α → α → Int) (hS : SWO (ltOf cf)) (f : Nat) (cb : Array Value)
    (ef : ∀ args w, (callFunc f args).run P w = .ok (.enter f args) w) (hcmp : CmpAt P f cb enc cf) (g off cap a m b s : Nat) (A M B : Int) (hA : (a : Int) = A) (hM : (m : Int) = M) (hB : (b : Int) = B) (d : Array α) (w : World) (hH : HoldsK enc k w g off d) (hg : g < w.heap.size) (ham : a < m) (hmb : m < b) (hb : b ≤ d.size) (hsz : d.size < 4611686018427387904) (hs : d.size = s)
    (r1 : SortedIn (ltOf cf) a m d) (r2 : SortedIn (ltOf cf) m b d) (hone : m ≠ a + 1) (hone2 : b ≠ m + 1) (ih : SymOKHeir P k enc cf (.func (.func f) #[] cb) g off cap s (b - a - 1)) (hbig :  (a + b) / 2 < m) :
    Calls P 328 #[.slice (some ⟨g, off, none⟩) s cap, .int .i64 A, .int .i64 M, .int .i64 B, .func (.func f) #[] cb] w fun e w' =>
      e = .returned (.tuple #[]) ∧ ∃ d', HoldsK enc k w' g off d' ∧ SM (ltOf cf) a b d d' ∧ SortedIn (ltOf cf) a b d' ∧ Ex w.heap.size (some g) w w' := by
  subst hA hM hB hs
  have mixed := L.mixed; have t0 := L.t0; have a0 := L.a0; have z0 := L.z0; have v0 := L.v0; have t1 := L.t1; have a1 := L.a1; have z1 := L.z1; have v1 := L.v1; have t2 := L.t2; have a2 := L.a2; have z2 := L.z2; have v2 := L.v2; have t3 := L.t3; have a3 := L.a3; have z3 := L.z3; have v3 := L.v3; have t4 := L.t4; have a4 := L.a4; have z4 := L.z4; have v4 := L.v4; have t5 := L.t5; have a5 := L.a5; have z5 := L.z5; have v5 := L.v5; have aE := L.aE; have zE := L.zE
  have u4 := run_underlying L.t4
  have HK := Lib.hid hk
  have H1 := Lib.hid h1
  have HC := Lib.hid hcmp
  have HHw := Lib.hid hH
  have HS := Lib.hid hS
  have HR1 := Lib.hid r1
  have HR2 := Lib.hid r2
  clear hk h1 hcmp hH hS r1 r2
  have HI := Lib.hid ih
  clear ih
  have eR : ∀ args w, (callFunc 351 args).run P w = .ok (.enter 351 args) w := enters_of L.fR (by kernel_rfl) rfl
  have eM : ∀ args w, (callFunc 328 args).run P w = .ok (.enter 328 args) w := enters_of L.fM (by kernel_rfl) rfl
  have hd : (((m : Int) - a) == 1) = false := by simp; omega
  have hd2 : (((b : Int) - m) == 1) = false := by simp; omega
  obtain ⟨mid, hmid⟩ : ∃ x, x = (a + b) / 2 := ⟨_, rfl⟩
  have em : ((a : Int) + b) / 2 = (mid : Int) := by omega
  obtain ⟨p, hp⟩ : ∃ x, x = mid + m - 1 := ⟨_, rfl⟩
  have ep : (mid : Int) + m - 1 = (p : Int) := by omega
  have hp1 : p + 1 = mid + m := by omega
  have g1 : a < mid := by omega
  have g2 : mid < b := by omega
  have hbg : decide ((mid : Int) < m) = true := decide_eq_true (by omega)
  have hbn : mid < m := by omega
  obtain ⟨s0, hs0⟩ : ∃ x, x = mid + m - b := ⟨_, rfl⟩
  have es : (mid : Int) + m - b = (s0 : Int) := by omega
  obtain ⟨r0, hr0⟩ : ∃ x, x = mid := ⟨_, rfl⟩
  have HC0 : Hid ((mid < m ∧ s0 = mid + m - b ∧ r0 = mid) ∨ (m ≤ mid ∧ s0 = a ∧ r0 = m)) := Or.inl ⟨by omega, by omega, by omega⟩
  have HA : Hid (CutAt a m b p s0 r0) := cut_at ham hmb hmid hp1 HC0.out
  have HM := Lib.hid hmid
  have hA1 := HA.out.lo
  have hA2 := HA.out.hi
  have hA3 := HA.out.ord
  have hA4 := HA.out.top
  have hA5 := HA.out.bot
  have h0s : (s0 : Int) = mid + m - b := by omega
  have h0r : (r0 : Int) = mid := by omega
  have H0 := Lib.hid (And.intro h0s h0r)
  have HP := Lib.hid hp1
  have hp2 : p + 1 ≤ mid + m := by omega
  have hp3 : mid + m ≤ p + 1 := by omega
  clear hp hs0 hr0 hmid hone hone2 hbig h0s h0r hp1
  go_enter L.fM, Tryz.ntmps328
  go_wp2
  go_loopw [20, 21] (fun vi vj wr => ∃ (q r : Nat), vi = .int .i64 q ∧ vj = .int .i64 r ∧ s0 ≤ q ∧ q ≤ r ∧ r ≤ r0 ∧ HoldsK enc k wr g off d ∧ CutLo (ltOf cf) d p s0 q ∧ CutHi (ltOf cf) d p r r0 ∧ Ex w.heap.size (some g) w wr) (fun vi vj _ => (intOf vj - intOf vi).toNat)
  case atStart => exact ⟨s0, r0, by first | rfl | rw [H0.out.1], by first | rfl | rw [H0.out.2], Nat.le_refl _, hA3, Nat.le_refl _, HHw.out, fun h h1 h2 => by omega, fun h h1 h2 => by omega, Ex.refl _ _ _⟩
  case round =>
    obtain ⟨q, r, rfl, rfl, hsq, hqr, hrr, hHk, hlo, hhi, hex⟩ := hrel
    have HHk := Lib.hid hHk
    have HLo := Lib.hid hlo
    have HHi := Lib.hid hhi
    clear hHk hlo hhi
    have hsz' := hex.size
    by_cases hlt : (q : Int) < r
    · obtain ⟨c, hc⟩ : ∃ h, h = (q + r) / 2 := ⟨_, rfl⟩
      have h1 : q ≤ c := by omega
      have h2 : c < r := by omega
      have e1 : ((q : Int) + r) / 2 = (c : Int) := by omega
      obtain ⟨u, hu⟩ : ∃ h, h = p - c := ⟨_, rfl⟩
      have e2 : IntKind.i64.wrap ((p : Int) - c) = (u : Int) := by rw [IntKind.wrap_i64]; omega
      have hub : u < d.size := by omega
      have HU := Lib.hid hu
      clear hc hu
      have hHc : ∀ n' os', HoldsK enc k (grow (wr.drewN n') os') g off d := fun n' os' => holdsK_grow enc k _ os' g off d (by show g < wr.heap.size; omega) (show HoldsK enc k (wr.drewN n') g off d from HHk.out)
      obtain ⟨vu, hvu⟩ : ∃ v, d[u]! = v := ⟨_, rfl⟩
      obtain ⟨vc, hvc⟩ : ∃ v, d[c]! = v := ⟨_, rfl⟩
      have l1 : ∀ n' os', Sem.run P (loadCellsFrom ⟨g, off + u * k, none⟩ 0 k #[]) (grow (wr.drewN n') os') = .ok (enc vu).toArray (grow (wr.drewN n') os') := fun n' os' => by
        rw [← hvu]; exact run_loadCellsFrom_list P _ _ _ k (HK.out _) (HoldsK.cells (hHc n' os') HK.out (by omega))
      have l2 : ∀ n' os', Sem.run P (loadCellsFrom ⟨g, off + c * k, none⟩ 0 k #[]) (grow (wr.drewN n') os') = .ok (enc vc).toArray (grow (wr.drewN n') os') := fun n' os' => by
        rw [← hvc]; exact run_loadCellsFrom_list P _ _ _ k (HK.out _) (HoldsK.cells (hHc n' os') HK.out (by omega))
      have hcg : ∀ n' os', Calls P f (#[.agg (enc vu).toArray, .agg (enc vc).toArray] ++ cb) (grow (wr.drewN n') os') fun e w' => e = .returned (.int .i64 (cf vu vc)) ∧ ∃ q os'', w' = grow ((grow (wr.drewN n') os').drewN q) os'' := fun n' os' => HC.out _ _ _
      have HV : Hid (d[u]! = vu ∧ d[c]! = vc) := ⟨hvu, hvc⟩
      clear hHc hvu hvc
      have b1 : (u : Int) < d.size := by omega
      have b2 : (c : Int) < d.size := by omega
      by_cases hlv : cf vu vc < 0
      · have hl' : decide (cf vu vc < 0) = true := decide_eq_true hlv
        go_wp2_with fail
        go_quiet_grown (first | (go_at_fn f; refine Calls.grown_of (hcg _ _)))
        go_wp2
        go_roundw
        case rel => exact ⟨q, c, rfl, rfl, hsq, h1, by omega, holdsK_grow enc k _ _ g off d (by show g < wr.heap.size; omega) (show HoldsK enc k (wr.drewN nq) g off d from HHk.out), HLo.out, CutHi.step HS.out HA.out HR1.out HR2.out (by omega) (by omega) (by rw [← HU.out, HV.out.1, HV.out.2]; exact decide_eq_true hlv), hex.trans (ex_grow' nq osq none (Nat.le_refl _)) hsz' (by simp)⟩
        case measure => simp [intOf]; omega
      · have hl' : decide (cf vu vc < 0) = false := decide_eq_false hlv
        go_wp2_with fail
        go_quiet_grown (first | (go_at_fn f; refine Calls.grown_of (hcg _ _)))
        go_wp2
        go_roundw
        case rel => exact ⟨c + 1, r, by go_num, rfl, by omega, by omega, hrr, holdsK_grow enc k _ _ g off d (by show g < wr.heap.size; omega) (show HoldsK enc k (wr.drewN nq) g off d from HHk.out), CutLo.step HS.out HA.out HR1.out HR2.out (by omega) (by omega) (by rw [← HU.out, HV.out.1, HV.out.2]; exact decide_eq_false (fun hx => by omega)), HHi.out, hex.trans (ex_grow' nq osq none (Nat.le_refl _)) hsz' (by simp)⟩
        case measure => simp [intOf]; omega
    · obtain rfl : q = r := by omega
      obtain ⟨f1, f2, f3, f4, f5, cf1, cf2⟩ := cut_found HS.out ham hmb HM.out HP.out HC0.out HR1.out HR2.out hsq hrr HLo.out HHi.out
      obtain ⟨e0, he0⟩ : ∃ e0, e0 = mid + m - q := ⟨_, rfl⟩
      have ee : (mid : Int) + m - q = (e0 : Int) := by omega
      rw [← he0] at f3 f4 f5 cf1 cf2
      have CF1 := Lib.hid cf1
      have CF2 := Lib.hid cf2
      have F5 := Lib.hid f5
      have y1 : e0 + q ≤ mid + m := by omega
      have y2 : mid + m ≤ e0 + q := by omega
      clear cf1 cf2 f5 he0
      by_cases k0 : q < m
      · skip
        by_cases k1 : q < mid
        · skip
          by_cases k2 : a < q
          · skip
            by_cases k3 : e0 < b
            · skip
              have dan : decide (q < m) = true := decide_eq_true (by omega)
              have da : decide ((q : Int) < m) = true := decide_eq_true (by omega)
              have dbn : decide (m < e0) = true := decide_eq_true (by omega)
              have db : decide ((m : Int) < e0) = true := decide_eq_true (by omega)
              have dcn : decide (a < q) = true := decide_eq_true (by omega)
              have dc : decide ((a : Int) < q) = true := decide_eq_true (by omega)
              have den : decide (q < mid) = true := decide_eq_true (by omega)
              have de : decide ((q : Int) < mid) = true := decide_eq_true (by omega)
              have dfn : decide (mid < e0) = true := decide_eq_true (by omega)
              have df : decide ((mid : Int) < e0) = true := decide_eq_true (by omega)
              have dgn : decide (e0 < b) = true := decide_eq_true (by omega)
              have dg : decide ((e0 : Int) < b) = true := decide_eq_true (by omega)
              go_wp2_with fail
              refine (rotHeir_any L enc HK.out H1.out g off cap q m e0 _ _ _ _ rfl rfl rfl _ d _ HHk.out (by omega) (by omega) (by omega) (by omega) hsz rfl).mono ?_
              rintro e' w1 ⟨rfl, d1, hH1, hby1, hex1⟩
              have hE1 := hex.trans hex1 hsz' (fun q e _ => by cases e; rfl)
              have hz1 := hE1.size
              obtain ⟨k1, sA, sB, sC, sD, hx⟩ := rot_runs HS.out hby1 f1 f2 f3 f4 hb HR1.out HR2.out CF1.out CF2.out
              rw [F5.out] at sB sC hx
              have hn1 : d1.size = d.size := k1.size
              have K1 := Lib.hid (And.intro k1 (And.intro sA (And.intro sB (And.intro sC (And.intro sD (And.intro hx hn1))))))
              have HH1 := Lib.hid hH1
              clear k1 sA sB sC sD hx hn1 hH1 hby1
              go_wp2_with fail
              refine (HI.out a q mid _ _ _ d1 _ rfl rfl rfl HH1.out (by omega) (by omega) (by omega) (by have := K1.out.2.2.2.2.2.2; omega) (by omega) (by have := K1.out.2.2.2.2.2.2; omega) K1.out.2.1 K1.out.2.2.1).mono ?_
              rintro e' w2 ⟨rfl, d2, hH2, k2, s2, hex2⟩
              have hE2 := hE1.trans hex2 hz1 (fun q e _ => by cases e; rfl)
              have hz2 := hE2.size
              have K2 : Hid (SortedIn (ltOf cf) mid e0 d2 ∧ SortedIn (ltOf cf) e0 b d2 ∧ d2.size = d.size) := ⟨sorted_out k2 (Nat.le_refl _) K1.out.2.2.2.1, sorted_out k2 (by omega) K1.out.2.2.2.2.1, k2.size.trans K1.out.2.2.2.2.2.2⟩
              have S2 := Lib.hid (And.intro k2 s2)
              have HH2 := Lib.hid hH2
              clear k2 s2 hH2
              go_wp2_with fail
              refine (HI.out mid e0 b _ _ _ d2 _ rfl rfl rfl HH2.out (by omega) (by omega) (by omega) (by have := K2.out.2.2; omega) (by omega) (by have := K2.out.2.2; omega) K2.out.1 K2.out.2.1).mono ?_
              rintro e' w3 ⟨rfl, d3, hH3, k3, s3, hex3⟩
              have hE3 := hE2.trans hex3 hz2 (fun q e _ => by cases e; rfl)
              go_wp2
              go_end0
              obtain ⟨z1, z2⟩ := merge_join K1.out.1 (by omega) (by omega) K1.out.2.2.2.2.2.1 S2.out.1 S2.out.2 k3 s3
              exact ⟨rfl, d3, hH3, z1, z2, hE3⟩
            · skip
              have dan : decide (q < m) = true := decide_eq_true (by omega)
              have da : decide ((q : Int) < m) = true := decide_eq_true (by omega)
              have dbn : decide (m < e0) = true := decide_eq_true (by omega)
              have db : decide ((m : Int) < e0) = true := decide_eq_true (by omega)
              have dcn : decide (a < q) = true := decide_eq_true (by omega)
              have dc : decide ((a : Int) < q) = true := decide_eq_true (by omega)
              have den : decide (q < mid) = true := decide_eq_true (by omega)
              have de : decide ((q : Int) < mid) = true := decide_eq_true (by omega)
              have dfn : decide (mid < e0) = true := decide_eq_true (by omega)
              have df : decide ((mid : Int) < e0) = true := decide_eq_true (by omega)
              have dgn : decide (e0 < b) = false := decide_eq_false (by omega)
              have dg : decide ((e0 : Int) < b) = false := decide_eq_false (by omega)
              go_wp2_with fail
              refine (rotHeir_any L enc HK.out H1.out g off cap q m e0 _ _ _ _ rfl rfl rfl _ d _ HHk.out (by omega) (by omega) (by omega) (by omega) hsz rfl).mono ?_
              rintro e' w1 ⟨rfl, d1, hH1, hby1, hex1⟩
              have hE1 := hex.trans hex1 hsz' (fun q e _ => by cases e; rfl)
              have hz1 := hE1.size
              obtain ⟨k1, sA, sB, sC, sD, hx⟩ := rot_runs HS.out hby1 f1 f2 f3 f4 hb HR1.out HR2.out CF1.out CF2.out
              rw [F5.out] at sB sC hx
              have hn1 : d1.size = d.size := k1.size
              have K1 := Lib.hid (And.intro k1 (And.intro sA (And.intro sB (And.intro sC (And.intro sD (And.intro hx hn1))))))
              have HH1 := Lib.hid hH1
              clear k1 sA sB sC sD hx hn1 hH1 hby1
              go_wp2_with fail
              refine (HI.out a q mid _ _ _ d1 _ rfl rfl rfl HH1.out (by omega) (by omega) (by omega) (by have := K1.out.2.2.2.2.2.2; omega) (by omega) (by have := K1.out.2.2.2.2.2.2; omega) K1.out.2.1 K1.out.2.2.1).mono ?_
              rintro e' w2 ⟨rfl, d2, hH2, k2, s2, hex2⟩
              have hE2 := hE1.trans hex2 hz1 (fun q e _ => by cases e; rfl)
              have hz2 := hE2.size
              have K2 : Hid (SortedIn (ltOf cf) mid e0 d2 ∧ SortedIn (ltOf cf) e0 b d2 ∧ d2.size = d.size) := ⟨sorted_out k2 (Nat.le_refl _) K1.out.2.2.2.1, sorted_out k2 (by omega) K1.out.2.2.2.2.1, k2.size.trans K1.out.2.2.2.2.2.2⟩
              have S2 := Lib.hid (And.intro k2 s2)
              have HH2 := Lib.hid hH2
              clear k2 s2 hH2
              go_wp2
              go_end0
              obtain ⟨z1, z2⟩ := merge_join K1.out.1 (by omega) (by omega) K1.out.2.2.2.2.2.1 S2.out.1 S2.out.2 (SM.refl _ _ _ _) (two_runs (by omega) f4 (by omega) K2.out.1 K2.out.2.1)
              exact ⟨rfl, d2, HH2.out, z1, z2, hE2⟩
          · skip
            by_cases k3 : e0 < b
            · skip
              have dan : decide (q < m) = true := decide_eq_true (by omega)
              have da : decide ((q : Int) < m) = true := decide_eq_true (by omega)
              have dbn : decide (m < e0) = true := decide_eq_true (by omega)
              have db : decide ((m : Int) < e0) = true := decide_eq_true (by omega)
              have dcn : decide (a < q) = false := decide_eq_false (by omega)
              have dc : decide ((a : Int) < q) = false := decide_eq_false (by omega)
              have den : decide (q < mid) = true := decide_eq_true (by omega)
              have de : decide ((q : Int) < mid) = true := decide_eq_true (by omega)
              have dfn : decide (mid < e0) = true := decide_eq_true (by omega)
              have df : decide ((mid : Int) < e0) = true := decide_eq_true (by omega)
              have dgn : decide (e0 < b) = true := decide_eq_true (by omega)
              have dg : decide ((e0 : Int) < b) = true := decide_eq_true (by omega)
              go_wp2_with fail
              refine (rotHeir_any L enc HK.out H1.out g off cap q m e0 _ _ _ _ rfl rfl rfl _ d _ HHk.out (by omega) (by omega) (by omega) (by omega) hsz rfl).mono ?_
              rintro e' w1 ⟨rfl, d1, hH1, hby1, hex1⟩
              have hE1 := hex.trans hex1 hsz' (fun q e _ => by cases e; rfl)
              have hz1 := hE1.size
              obtain ⟨k1, sA, sB, sC, sD, hx⟩ := rot_runs HS.out hby1 f1 f2 f3 f4 hb HR1.out HR2.out CF1.out CF2.out
              rw [F5.out] at sB sC hx
              have hn1 : d1.size = d.size := k1.size
              have K1 := Lib.hid (And.intro k1 (And.intro sA (And.intro sB (And.intro sC (And.intro sD (And.intro hx hn1))))))
              have HH1 := Lib.hid hH1
              clear k1 sA sB sC sD hx hn1 hH1 hby1
              obtain ⟨d2, w2, hd2, hw2⟩ : ∃ (d2 : Array α) (w2 : World), d1 = d2 ∧ w1 = w2 := ⟨_, _, rfl, rfl⟩
              have k2 : SM (ltOf cf) a mid d1 d2 := by rw [← hd2]; exact SM.refl _ _ _ _
              have s2 : SortedIn (ltOf cf) a mid d2 := by rw [← hd2]; exact two_runs f1 (by omega) (by omega) K1.out.2.1 K1.out.2.2.1
              have hH2 : HoldsK enc k w2 g off d2 := by rw [← hd2, ← hw2]; exact HH1.out
              have hE2 : Ex w.heap.size (some g) w w2 := by rw [← hw2]; exact hE1
              subst hw2
              clear hd2
              have hz2 := hE2.size
              have K2 : Hid (SortedIn (ltOf cf) mid e0 d2 ∧ SortedIn (ltOf cf) e0 b d2 ∧ d2.size = d.size) := ⟨sorted_out k2 (Nat.le_refl _) K1.out.2.2.2.1, sorted_out k2 (by omega) K1.out.2.2.2.2.1, k2.size.trans K1.out.2.2.2.2.2.2⟩
              have S2 := Lib.hid (And.intro k2 s2)
              have HH2 := Lib.hid hH2
              clear k2 s2 hH2
              go_wp2_with fail
              refine (HI.out mid e0 b _ _ _ d2 _ rfl rfl rfl HH2.out (by omega) (by omega) (by omega) (by have := K2.out.2.2; omega) (by omega) (by have := K2.out.2.2; omega) K2.out.1 K2.out.2.1).mono ?_
              rintro e' w3 ⟨rfl, d3, hH3, k3, s3, hex3⟩
              have hE3 := hE2.trans hex3 hz2 (fun q e _ => by cases e; rfl)
              go_wp2
              go_end0
              obtain ⟨z1, z2⟩ := merge_join K1.out.1 (by omega) (by omega) K1.out.2.2.2.2.2.1 S2.out.1 S2.out.2 k3 s3
              exact ⟨rfl, d3, hH3, z1, z2, hE3⟩
            · skip
              have dan : decide (q < m) = true := decide_eq_true (by omega)
              have da : decide ((q : Int) < m) = true := decide_eq_true (by omega)
              have dbn : decide (m < e0) = true := decide_eq_true (by omega)
              have db : decide ((m : Int) < e0) = true := decide_eq_true (by omega)
              have dcn : decide (a < q) = false := decide_eq_false (by omega)
              have dc : decide ((a : Int) < q) = false := decide_eq_false (by omega)
              have den : decide (q < mid) = true := decide_eq_true (by omega)
              have de : decide ((q : Int) < mid) = true := decide_eq_true (by omega)
              have dfn : decide (mid < e0) = true := decide_eq_true (by omega)
              have df : decide ((mid : Int) < e0) = true := decide_eq_true (by omega)
              have dgn : decide (e0 < b) = false := decide_eq_false (by omega)
              have dg : decide ((e0 : Int) < b) = false := decide_eq_false (by omega)
              go_wp2_with fail
              refine (rotHeir_any L enc HK.out H1.out g off cap q m e0 _ _ _ _ rfl rfl rfl _ d _ HHk.out (by omega) (by omega) (by omega) (by omega) hsz rfl).mono ?_
              rintro e' w1 ⟨rfl, d1, hH1, hby1, hex1⟩
              have hE1 := hex.trans hex1 hsz' (fun q e _ => by cases e; rfl)
              have hz1 := hE1.size
              obtain ⟨k1, sA, sB, sC, sD, hx⟩ := rot_runs HS.out hby1 f1 f2 f3 f4 hb HR1.out HR2.out CF1.out CF2.out
              rw [F5.out] at sB sC hx
              have hn1 : d1.size = d.size := k1.size
              have K1 := Lib.hid (And.intro k1 (And.intro sA (And.intro sB (And.intro sC (And.intro sD (And.intro hx hn1))))))
              have HH1 := Lib.hid hH1
              clear k1 sA sB sC sD hx hn1 hH1 hby1
              obtain ⟨d2, w2, hd2, hw2⟩ : ∃ (d2 : Array α) (w2 : World), d1 = d2 ∧ w1 = w2 := ⟨_, _, rfl, rfl⟩
              have k2 : SM (ltOf cf) a mid d1 d2 := by rw [← hd2]; exact SM.refl _ _ _ _
              have s2 : SortedIn (ltOf cf) a mid d2 := by rw [← hd2]; exact two_runs f1 (by omega) (by omega) K1.out.2.1 K1.out.2.2.1
              have hH2 : HoldsK enc k w2 g off d2 := by rw [← hd2, ← hw2]; exact HH1.out
              have hE2 : Ex w.heap.size (some g) w w2 := by rw [← hw2]; exact hE1
              subst hw2
              clear hd2
              have hz2 := hE2.size
              have K2 : Hid (SortedIn (ltOf cf) mid e0 d2 ∧ SortedIn (ltOf cf) e0 b d2 ∧ d2.size = d.size) := ⟨sorted_out k2 (Nat.le_refl _) K1.out.2.2.2.1, sorted_out k2 (by omega) K1.out.2.2.2.2.1, k2.size.trans K1.out.2.2.2.2.2.2⟩
              have S2 := Lib.hid (And.intro k2 s2)
              have HH2 := Lib.hid hH2
              clear k2 s2 hH2
              go_wp2
              go_end0
              obtain ⟨z1, z2⟩ := merge_join K1.out.1 (by omega) (by omega) K1.out.2.2.2.2.2.1 S2.out.1 S2.out.2 (SM.refl _ _ _ _) (two_runs (by omega) f4 (by omega) K2.out.1 K2.out.2.1)
              exact ⟨rfl, d2, HH2.out, z1, z2, hE2⟩
        · skip
          by_cases k2 : a < q
          · skip
            by_cases k3 : e0 < b
            · skip
              have dan : decide (q < m) = true := decide_eq_true (by omega)
              have da : decide ((q : Int) < m) = true := decide_eq_true (by omega)
              have dbn : decide (m < e0) = false := decide_eq_false (by omega)
              have db : decide ((m : Int) < e0) = false := decide_eq_false (by omega)
              have dcn : decide (a < q) = true := decide_eq_true (by omega)
              have dc : decide ((a : Int) < q) = true := decide_eq_true (by omega)
              have den : decide (q < mid) = false := decide_eq_false (by omega)
              have de : decide ((q : Int) < mid) = false := decide_eq_false (by omega)
              have dfn : decide (mid < e0) = true := decide_eq_true (by omega)
              have df : decide ((mid : Int) < e0) = true := decide_eq_true (by omega)
              have dgn : decide (e0 < b) = true := decide_eq_true (by omega)
              have dg : decide ((e0 : Int) < b) = true := decide_eq_true (by omega)
              obtain ⟨d1, w1, hd1, hw1⟩ : ∃ (d1 : Array α) (w1 : World), d = d1 ∧ wr = w1 := ⟨_, _, rfl, rfl⟩
              have hby1 : By (rotIx q m e0) d d1 := by rw [← hd1]; exact By.refl _ _ (fun t _ => rotIx_id (by omega) (by omega) (by omega))
              have hH1 : HoldsK enc k w1 g off d1 := by rw [← hd1, ← hw1]; exact HHk.out
              have hE1 : Ex w.heap.size (some g) w w1 := by rw [← hw1]; exact hex
              subst hw1
              clear hd1
              have hz1 := hE1.size
              obtain ⟨k1, sA, sB, sC, sD, hx⟩ := rot_runs HS.out hby1 f1 f2 f3 f4 hb HR1.out HR2.out CF1.out CF2.out
              rw [F5.out] at sB sC hx
              have hn1 : d1.size = d.size := k1.size
              have K1 := Lib.hid (And.intro k1 (And.intro sA (And.intro sB (And.intro sC (And.intro sD (And.intro hx hn1))))))
              have HH1 := Lib.hid hH1
              clear k1 sA sB sC sD hx hn1 hH1 hby1
              obtain ⟨d2, w2, hd2, hw2⟩ : ∃ (d2 : Array α) (w2 : World), d1 = d2 ∧ wr = w2 := ⟨_, _, rfl, rfl⟩
              have k2 : SM (ltOf cf) a mid d1 d2 := by rw [← hd2]; exact SM.refl _ _ _ _
              have s2 : SortedIn (ltOf cf) a mid d2 := by rw [← hd2]; exact two_runs f1 (by omega) (by omega) K1.out.2.1 K1.out.2.2.1
              have hH2 : HoldsK enc k w2 g off d2 := by rw [← hd2, ← hw2]; exact HH1.out
              have hE2 : Ex w.heap.size (some g) w w2 := by rw [← hw2]; exact hE1
              subst hw2
              clear hd2
              have hz2 := hE2.size
              have K2 : Hid (SortedIn (ltOf cf) mid e0 d2 ∧ SortedIn (ltOf cf) e0 b d2 ∧ d2.size = d.size) := ⟨sorted_out k2 (Nat.le_refl _) K1.out.2.2.2.1, sorted_out k2 (by omega) K1.out.2.2.2.2.1, k2.size.trans K1.out.2.2.2.2.2.2⟩
              have S2 := Lib.hid (And.intro k2 s2)
              have HH2 := Lib.hid hH2
              clear k2 s2 hH2
              go_wp2_with fail
              refine (HI.out mid e0 b _ _ _ d2 _ rfl rfl rfl HH2.out (by omega) (by omega) (by omega) (by have := K2.out.2.2; omega) (by omega) (by have := K2.out.2.2; omega) K2.out.1 K2.out.2.1).mono ?_
              rintro e' w3 ⟨rfl, d3, hH3, k3, s3, hex3⟩
              have hE3 := hE2.trans hex3 hz2 (fun q e _ => by cases e; rfl)
              go_wp2
              go_end0
              obtain ⟨z1, z2⟩ := merge_join K1.out.1 (by omega) (by omega) K1.out.2.2.2.2.2.1 S2.out.1 S2.out.2 k3 s3
              exact ⟨rfl, d3, hH3, z1, z2, hE3⟩
            · skip
              have dan : decide (q < m) = true := decide_eq_true (by omega)
              have da : decide ((q : Int) < m) = true := decide_eq_true (by omega)
              have dbn : decide (m < e0) = false := decide_eq_false (by omega)
              have db : decide ((m : Int) < e0) = false := decide_eq_false (by omega)
              have dcn : decide (a < q) = true := decide_eq_true (by omega)
              have dc : decide ((a : Int) < q) = true := decide_eq_true (by omega)
              have den : decide (q < mid) = false := decide_eq_false (by omega)
              have de : decide ((q : Int) < mid) = false := decide_eq_false (by omega)
              have dfn : decide (mid < e0) = true := decide_eq_true (by omega)
              have df : decide ((mid : Int) < e0) = true := decide_eq_true (by omega)
              have dgn : decide (e0 < b) = false := decide_eq_false (by omega)
              have dg : decide ((e0 : Int) < b) = false := decide_eq_false (by omega)
              obtain ⟨d1, w1, hd1, hw1⟩ : ∃ (d1 : Array α) (w1 : World), d = d1 ∧ wr = w1 := ⟨_, _, rfl, rfl⟩
              have hby1 : By (rotIx q m e0) d d1 := by rw [← hd1]; exact By.refl _ _ (fun t _ => rotIx_id (by omega) (by omega) (by omega))
              have hH1 : HoldsK enc k w1 g off d1 := by rw [← hd1, ← hw1]; exact HHk.out
              have hE1 : Ex w.heap.size (some g) w w1 := by rw [← hw1]; exact hex
              subst hw1
              clear hd1
              have hz1 := hE1.size
              obtain ⟨k1, sA, sB, sC, sD, hx⟩ := rot_runs HS.out hby1 f1 f2 f3 f4 hb HR1.out HR2.out CF1.out CF2.out
              rw [F5.out] at sB sC hx
              have hn1 : d1.size = d.size := k1.size
              have K1 := Lib.hid (And.intro k1 (And.intro sA (And.intro sB (And.intro sC (And.intro sD (And.intro hx hn1))))))
              have HH1 := Lib.hid hH1
              clear k1 sA sB sC sD hx hn1 hH1 hby1
              obtain ⟨d2, w2, hd2, hw2⟩ : ∃ (d2 : Array α) (w2 : World), d1 = d2 ∧ wr = w2 := ⟨_, _, rfl, rfl⟩
              have k2 : SM (ltOf cf) a mid d1 d2 := by rw [← hd2]; exact SM.refl _ _ _ _
              have s2 : SortedIn (ltOf cf) a mid d2 := by rw [← hd2]; exact two_runs f1 (by omega) (by omega) K1.out.2.1 K1.out.2.2.1
              have hH2 : HoldsK enc k w2 g off d2 := by rw [← hd2, ← hw2]; exact HH1.out
              have hE2 : Ex w.heap.size (some g) w w2 := by rw [← hw2]; exact hE1
              subst hw2
              clear hd2
              have hz2 := hE2.size
              have K2 : Hid (SortedIn (ltOf cf) mid e0 d2 ∧ SortedIn (ltOf cf) e0 b d2 ∧ d2.size = d.size) := ⟨sorted_out k2 (Nat.le_refl _) K1.out.2.2.2.1, sorted_out k2 (by omega) K1.out.2.2.2.2.1, k2.size.trans K1.out.2.2.2.2.2.2⟩
              have S2 := Lib.hid (And.intro k2 s2)
              have HH2 := Lib.hid hH2
              clear k2 s2 hH2
              go_wp2
              go_end0
              obtain ⟨z1, z2⟩ := merge_join K1.out.1 (by omega) (by omega) K1.out.2.2.2.2.2.1 S2.out.1 S2.out.2 (SM.refl _ _ _ _) (two_runs (by omega) f4 (by omega) K2.out.1 K2.out.2.1)
              exact ⟨rfl, d2, HH2.out, z1, z2, hE2⟩
          · skip
            by_cases k3 : e0 < b
            · skip
              have dan : decide (q < m) = true := decide_eq_true (by omega)
              have da : decide ((q : Int) < m) = true := decide_eq_true (by omega)
              have dbn : decide (m < e0) = false := decide_eq_false (by omega)
              have db : decide ((m : Int) < e0) = false := decide_eq_false (by omega)
              have dcn : decide (a < q) = false := decide_eq_false (by omega)
              have dc : decide ((a : Int) < q) = false := decide_eq_false (by omega)
              have den : decide (q < mid) = false := decide_eq_false (by omega)
              have de : decide ((q : Int) < mid) = false := decide_eq_false (by omega)
              have dfn : decide (mid < e0) = true := decide_eq_true (by omega)
              have df : decide ((mid : Int) < e0) = true := decide_eq_true (by omega)
              have dgn : decide (e0 < b) = true := decide_eq_true (by omega)
              have dg : decide ((e0 : Int) < b) = true := decide_eq_true (by omega)
              obtain ⟨d1, w1, hd1, hw1⟩ : ∃ (d1 : Array α) (w1 : World), d = d1 ∧ wr = w1 := ⟨_, _, rfl, rfl⟩
              have hby1 : By (rotIx q m e0) d d1 := by rw [← hd1]; exact By.refl _ _ (fun t _ => rotIx_id (by omega) (by omega) (by omega))
              have hH1 : HoldsK enc k w1 g off d1 := by rw [← hd1, ← hw1]; exact HHk.out
              have hE1 : Ex w.heap.size (some g) w w1 := by rw [← hw1]; exact hex
              subst hw1
              clear hd1
              have hz1 := hE1.size
              obtain ⟨k1, sA, sB, sC, sD, hx⟩ := rot_runs HS.out hby1 f1 f2 f3 f4 hb HR1.out HR2.out CF1.out CF2.out
              rw [F5.out] at sB sC hx
              have hn1 : d1.size = d.size := k1.size
              have K1 := Lib.hid (And.intro k1 (And.intro sA (And.intro sB (And.intro sC (And.intro sD (And.intro hx hn1))))))
              have HH1 := Lib.hid hH1
              clear k1 sA sB sC sD hx hn1 hH1 hby1
              obtain ⟨d2, w2, hd2, hw2⟩ : ∃ (d2 : Array α) (w2 : World), d1 = d2 ∧ wr = w2 := ⟨_, _, rfl, rfl⟩
              have k2 : SM (ltOf cf) a mid d1 d2 := by rw [← hd2]; exact SM.refl _ _ _ _
              have s2 : SortedIn (ltOf cf) a mid d2 := by rw [← hd2]; exact two_runs f1 (by omega) (by omega) K1.out.2.1 K1.out.2.2.1
              have hH2 : HoldsK enc k w2 g off d2 := by rw [← hd2, ← hw2]; exact HH1.out
              have hE2 : Ex w.heap.size (some g) w w2 := by rw [← hw2]; exact hE1
              subst hw2
              clear hd2
              have hz2 := hE2.size
              have K2 : Hid (SortedIn (ltOf cf) mid e0 d2 ∧ SortedIn (ltOf cf) e0 b d2 ∧ d2.size = d.size) := ⟨sorted_out k2 (Nat.le_refl _) K1.out.2.2.2.1, sorted_out k2 (by omega) K1.out.2.2.2.2.1, k2.size.trans K1.out.2.2.2.2.2.2⟩
              have S2 := Lib.hid (And.intro k2 s2)
              have HH2 := Lib.hid hH2
              clear k2 s2 hH2
              go_wp2_with fail
              refine (HI.out mid e0 b _ _ _ d2 _ rfl rfl rfl HH2.out (by omega) (by omega) (by omega) (by have := K2.out.2.2; omega) (by omega) (by have := K2.out.2.2; omega) K2.out.1 K2.out.2.1).mono ?_
              rintro e' w3 ⟨rfl, d3, hH3, k3, s3, hex3⟩
              have hE3 := hE2.trans hex3 hz2 (fun q e _ => by cases e; rfl)
              go_wp2
              go_end0
              obtain ⟨z1, z2⟩ := merge_join K1.out.1 (by omega) (by omega) K1.out.2.2.2.2.2.1 S2.out.1 S2.out.2 k3 s3
              exact ⟨rfl, d3, hH3, z1, z2, hE3⟩
            · skip
              have dan : decide (q < m) = true := decide_eq_true (by omega)
              have da : decide ((q : Int) < m) = true := decide_eq_true (by omega)
              have dbn : decide (m < e0) = false := decide_eq_false (by omega)
              have db : decide ((m : Int) < e0) = false := decide_eq_false (by omega)
              have dcn : decide (a < q) = false := decide_eq_false (by omega)
              have dc : decide ((a : Int) < q) = false := decide_eq_false (by omega)
              have den : decide (q < mid) = false := decide_eq_false (by omega)
              have de : decide ((q : Int) < mid) = false := decide_eq_false (by omega)
              have dfn : decide (mid < e0) = true := decide_eq_true (by omega)
              have df : decide ((mid : Int) < e0) = true := decide_eq_true (by omega)
              have dgn : decide (e0 < b) = false := decide_eq_false (by omega)
              have dg : decide ((e0 : Int) < b) = false := decide_eq_false (by omega)
              obtain ⟨d1, w1, hd1, hw1⟩ : ∃ (d1 : Array α) (w1 : World), d = d1 ∧ wr = w1 := ⟨_, _, rfl, rfl⟩
              have hby1 : By (rotIx q m e0) d d1 := by rw [← hd1]; exact By.refl _ _ (fun t _ => rotIx_id (by omega) (by omega) (by omega))
              have hH1 : HoldsK enc k w1 g off d1 := by rw [← hd1, ← hw1]; exact HHk.out
              have hE1 : Ex w.heap.size (some g) w w1 := by rw [← hw1]; exact hex
              subst hw1
              clear hd1
              have hz1 := hE1.size
              obtain ⟨k1, sA, sB, sC, sD, hx⟩ := rot_runs HS.out hby1 f1 f2 f3 f4 hb HR1.out HR2.out CF1.out CF2.out
              rw [F5.out] at sB sC hx
              have hn1 : d1.size = d.size := k1.size
              have K1 := Lib.hid (And.intro k1 (And.intro sA (And.intro sB (And.intro sC (And.intro sD (And.intro hx hn1))))))
              have HH1 := Lib.hid hH1
              clear k1 sA sB sC sD hx hn1 hH1 hby1
              obtain ⟨d2, w2, hd2, hw2⟩ : ∃ (d2 : Array α) (w2 : World), d1 = d2 ∧ wr = w2 := ⟨_, _, rfl, rfl⟩
              have k2 : SM (ltOf cf) a mid d1 d2 := by rw [← hd2]; exact SM.refl _ _ _ _
              have s2 : SortedIn (ltOf cf) a mid d2 := by rw [← hd2]; exact two_runs f1 (by omega) (by omega) K1.out.2.1 K1.out.2.2.1
              have hH2 : HoldsK enc k w2 g off d2 := by rw [← hd2, ← hw2]; exact HH1.out
              have hE2 : Ex w.heap.size (some g) w w2 := by rw [← hw2]; exact hE1
              subst hw2
              clear hd2
              have hz2 := hE2.size
              have K2 : Hid (SortedIn (ltOf cf) mid e0 d2 ∧ SortedIn (ltOf cf) e0 b d2 ∧ d2.size = d.size) := ⟨sorted_out k2 (Nat.le_refl _) K1.out.2.2.2.1, sorted_out k2 (by omega) K1.out.2.2.2.2.1, k2.size.trans K1.out.2.2.2.2.2.2⟩
              have S2 := Lib.hid (And.intro k2 s2)
              have HH2 := Lib.hid hH2
              clear k2 s2 hH2
              go_wp2
              go_end0
              obtain ⟨z1, z2⟩ := merge_join K1.out.1 (by omega) (by omega) K1.out.2.2.2.2.2.1 S2.out.1 S2.out.2 (SM.refl _ _ _ _) (two_runs (by omega) f4 (by omega) K2.out.1 K2.out.2.1)
              exact ⟨rfl, d2, HH2.out, z1, z2, hE2⟩
      · skip
        by_cases k1 : q < mid
        · skip
          by_cases k2 : a < q
          · skip
            by_cases k3 : e0 < b
            · skip
              exfalso; omega
            · skip
              exfalso; omega
          · skip
            by_cases k3 : e0 < b
            · skip
              exfalso; omega
            · skip
              exfalso; omega
        · skip
          by_cases k2 : a < q
          · skip
            by_cases k3 : e0 < b
            · skip
              exfalso; omega
            · skip
              exfalso; omega
          · skip
            by_cases k3 : e0 < b
            · skip
              exfalso; omega
            · skip
              exfalso; omega
end Go.Proofs.YtaghfcnpnfhacaaGreat

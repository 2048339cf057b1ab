/- QuotaGrows: the last loop of a round, as a theorem of its own over whatever frame. -/
import Derived.Test.YtgimodjkoincgaaQuotaGrowsPlain
namespace Go.Proofs.Ytgimodjkoincgaa
open Go.RowKit

def loops : Code → List Code
  | .loop c => .loop c :: loops c
  | .seq a b => loops a ++ loops b
  | .block _ c => loops c
  | .scope c => loops c
  | .cond _ a b => loops a ++ loops b
  | _ => []
noncomputable def growsLoop : Code := ((Try.f6.body.map loops).getD []).getD 3 .skip

set_option maxHeartbeats 8000000 in
set_option maxRecDepth 100000 in
theorem growsLoop_any (u0 u1 u2 u3 u4 u5 u6 u7 u10 u11 u12 u14 u16 u19 u20 u21 u22 u23 u24 u25 u26 u27 u28 u29 u30 u31 u32 u33 u34 u35 u36 u37 u38 u39 u40 u41 u42 u43 u44 u45 u46 u47 u48 u49 u50 u51 u52 u53 u54 u55 u56 u57 u58 u59 u60 u61 u62 u63 u64 u65 u66 u67 u68 u69 u70 u71 u72 u73 u74 u75 u76 u77 u78 u79 u80 u81 u82 u83 u84 u85 u86 u87 u88 u89 u90 u91 u92 u93 u94 u95 u96 u97 u98 u99 u100 u101 u102 u103 u104 u105 u106 u107 u108 u109 u110 u111 u112 u113 u114 u115 u116 u117 u118 u119 u120 u121 u122 u123 u124 u125 u126 u127 u128 u129 u130 u131 u132 u133 u134 u135 u136 u137 u138 u139 u140 u141 u142 u143 u144 u145 u146 u147 u148 u149 u150 u151 u152 u153 u154 : Value) (od ros : List Int) (n : Int) (oo mo ro : Option Addr) (oc mc rc : Nat) (wq : World) (fo : IntsAt wq oo od) (fm : IntsAt wq mo (newc od ros n)) (fr : IntsAt wq ro ros)
    (lo : od.length ≤ 8) (lr : ros.length ≤ 64) (ln : (newc od ros n).length ≤ od.length) (hcap : (newc od ros n).length ≤ mc) (Q : Exit → Act → World → Prop)
    (hQ : ∀ (x4 x90 x91 x92 x93 x94 x95 x96 x97 x98 x99 x100 x101 x102 x103 x104 x105 x106 x107 x108 x109 x110 x111 x112 x113 x114 x115 x116 x117 x118 x119 x120 x121 x122 x123 x124 x125 x126 x127 x128 x129 x130 x131 x132 x133 x134 x135 x136 : Value) (wr : World), Ex wq.heap.size none wq wr → Q (.exit 6) ⟨List.toArray (u0 :: u1 :: u2 :: u3 :: x4 :: u5 :: u6 :: u7 :: (.int .i64 n) :: (.slice ro ros.length rc) :: u10 :: u11 :: u12 :: (.slice oo od.length oc) :: u14 :: (.slice mo (newc od ros n).length mc) :: u16 :: (.int .i64 ((newc od ros n).length)) :: (.int .i64 od.length) :: u19 :: u20 :: u21 :: u22 :: u23 :: u24 :: u25 :: u26 :: u27 :: u28 :: u29 :: u30 :: u31 :: u32 :: u33 :: u34 :: u35 :: u36 :: u37 :: u38 :: u39 :: u40 :: u41 :: u42 :: u43 :: u44 :: u45 :: u46 :: u47 :: u48 :: u49 :: u50 :: u51 :: u52 :: u53 :: u54 :: u55 :: u56 :: u57 :: u58 :: u59 :: u60 :: u61 :: u62 :: u63 :: u64 :: u65 :: u66 :: u67 :: u68 :: u69 :: u70 :: u71 :: u72 :: u73 :: u74 :: u75 :: u76 :: u77 :: u78 :: u79 :: u80 :: u81 :: u82 :: u83 :: u84 :: u85 :: u86 :: u87 :: u88 :: u89 :: x90 :: x91 :: x92 :: x93 :: x94 :: x95 :: x96 :: x97 :: x98 :: x99 :: x100 :: x101 :: x102 :: x103 :: x104 :: x105 :: x106 :: x107 :: x108 :: x109 :: x110 :: x111 :: x112 :: x113 :: x114 :: x115 :: x116 :: x117 :: x118 :: x119 :: x120 :: x121 :: x122 :: x123 :: x124 :: x125 :: x126 :: x127 :: x128 :: x129 :: x130 :: x131 :: x132 :: x133 :: x134 :: x135 :: x136 :: u137 :: u138 :: u139 :: u140 :: u141 :: u142 :: u143 :: u144 :: u145 :: u146 :: u147 :: u148 :: u149 :: u150 :: u151 :: u152 :: u153 :: u154 :: []), []⟩ wr) :
    Code.wp Try.prog growsLoop Q ⟨List.toArray (u0 :: u1 :: u2 :: u3 :: u4 :: u5 :: u6 :: u7 :: (.int .i64 n) :: (.slice ro ros.length rc) :: u10 :: u11 :: u12 :: (.slice oo od.length oc) :: u14 :: (.slice mo (newc od ros n).length mc) :: u16 :: (.int .i64 0) :: (.int .i64 0) :: u19 :: u20 :: u21 :: u22 :: u23 :: u24 :: u25 :: u26 :: u27 :: u28 :: u29 :: u30 :: u31 :: u32 :: u33 :: u34 :: u35 :: u36 :: u37 :: u38 :: u39 :: u40 :: u41 :: u42 :: u43 :: u44 :: u45 :: u46 :: u47 :: u48 :: u49 :: u50 :: u51 :: u52 :: u53 :: u54 :: u55 :: u56 :: u57 :: u58 :: u59 :: u60 :: u61 :: u62 :: u63 :: u64 :: u65 :: u66 :: u67 :: u68 :: u69 :: u70 :: u71 :: u72 :: u73 :: u74 :: u75 :: u76 :: u77 :: u78 :: u79 :: u80 :: u81 :: u82 :: u83 :: u84 :: u85 :: u86 :: u87 :: u88 :: u89 :: u90 :: u91 :: u92 :: u93 :: u94 :: u95 :: u96 :: u97 :: u98 :: u99 :: u100 :: u101 :: u102 :: u103 :: u104 :: u105 :: u106 :: u107 :: u108 :: u109 :: u110 :: u111 :: u112 :: u113 :: u114 :: u115 :: u116 :: u117 :: u118 :: u119 :: u120 :: u121 :: u122 :: u123 :: u124 :: u125 :: u126 :: u127 :: u128 :: u129 :: u130 :: u131 :: u132 :: u133 :: u134 :: u135 :: u136 :: u137 :: u138 :: u139 :: u140 :: u141 :: u142 :: u143 :: u144 :: u145 :: u146 :: u147 :: u148 :: u149 :: u150 :: u151 :: u152 :: u153 :: u154 :: []), []⟩ wq := by
  have HQ := Lib.hid hQ
  clear hQ
  conv => arg 2; whnf
  go_loopw [17, 18] (fun a i wr => ∃ (m : Nat), m ≤ od.length ∧ i = .int .i64 m ∧ a = .int .i64 ((newcTo od ros n m).length) ∧ Ex wq.heap.size none wq wr) (fun _ i _ => od.length - (intOf i).toNat)
  case atStart => exact ⟨0, by omega, rfl, rfl, Ex.refl _ _ _⟩
  case round =>
    obtain ⟨m, hm, rfl, rfl, hex⟩ := hrel
    have oi := (fo.keep hex (Nat.le_refl _) (by simp))
    have mi := (fm.keep hex (Nat.le_refl _) (by simp))
    have fr1 := (fr.keep hex (Nat.le_refl _) (by simp))
    obtain ⟨ht1, ht2⟩ := newcTo_take (od := od) (ros := ros) (n := n) hm
    have HT := Lib.hid ht1
    clear ht1
    by_cases hlm : m < od.length
    · obtain ⟨bo, oof, y, rfl, hcy, HY⟩ := oi.get m hlm
      by_cases hC : (((newcTo od ros n m).length : Int) < n ∧ hasI ros y = false ∧ hasI (newcTo od ros n m) y = false)
      · have HN1 : Hid (newcTo od ros n (m + 1) = newcTo od ros n m ++ [y]) := by
          have := newcTo_yes (xs := od) (old := ros) (q := n) (k := m) (by rw [HY.out]; exact hC)
          rwa [HY.out] at this
        clear hC
        obtain ⟨hs1, hs2⟩ := scan_yes hlm HY.out HN1.out
        obtain ⟨bm, mof, z, rfl, hcz, HZ⟩ := mi.get _ hs1
        obtain rfl : y = z := by rw [← hs2]; exact HZ.out
        clear hs2
        have hd1 : decide (((newcTo od ros n m).length : Int) < ((newc od ros n).length : Int)) = true := decide_eq_true (by omega)
        go_wp2
        go_quiet (fail)
        go_wp2
        go_roundw
        case rel => exact ⟨m + 1, by omega, by go_num, by rw [HN1.out, List.length_append]; rfl, hex.trans (Ex.refl wr.heap.size none _).drewN (by have := hex.size; omega) (by simp)⟩
        case measure => simp [intOf] <;> omega
      · have HN1 : Hid (newcTo od ros n (m + 1) = newcTo od ros n m) := newcTo_no (xs := od) (old := ros) (q := n) (k := m) (by rw [HY.out]; exact hC)
        clear hC
        have fr2 : ∀ q, Ints (wr.drewN q) (.slice ro ros.length rc) ros := fun q => ⟨_, _, rfl, fr1.keep (Ex.refl wr.heap.size none _).drewN (Nat.le_refl _) (by simp)⟩
        have fm2 : ∀ q, Ints (wr.drewN q) (.slice mo (newcTo od ros n m).length mc) (newcTo od ros n m) := fun q => by
          have h3 := (mi.take (newcTo od ros n m).length).keep (Ex.refl wr.heap.size none wr).drewN (Nat.le_refl _) (by simp) (w' := wr.drewN q)
          rw [HT.out] at h3
          exact ⟨_, _, rfl, h3⟩
        have fr3 : ∀ q r, Ints ((wr.drewN q).drewN r) (.slice ro ros.length rc) ros := fun q r => fr2 (q + r)
        have fm3 : ∀ q r, Ints ((wr.drewN q).drewN r) (.slice mo (newcTo od ros n m).length mc) (newcTo od ros n m) := fun q r => fm2 (q + r)
        have hcm : (newcTo od ros n m).length ≤ mc := by omega
        by_cases hlm2 : (newcTo od ros n m).length < (newc od ros n).length
        · obtain ⟨bm, mof, z, rfl, hcz, HZ⟩ := mi.get _ hlm2
          have hyz : (y == z) = false := by
            have := scan_no hlm HY.out HN1.out hlm2 HZ.out
            simpa using this
          have hd1 : decide (((newcTo od ros n m).length : Int) < ((newc od ros n).length : Int)) = true := decide_eq_true (by omega)
          clear mi
          go_wp2
          go_quiet (fail)
          go_wp2
          by_cases hf : ((newc od ros n).length : Int) < n
          · have hfd : decide (((newc od ros n).length : Int) < n) = true := decide_eq_true hf
            by_cases hr : hasI ros y = true
            · go_quiet ((go_at_call 22; exact (asB (refHas_any _ _ _ _ (fr2 _) (by omega)) hr).mono fun _ _ h => ⟨h.1, _, h.2.symm⟩))
              go_wp2
              go_roundw
              case rel => exact ⟨m + 1, by omega, by go_num, by rw [HN1.out], hex.trans (Ex.refl wr.heap.size none _).drewN (by have := hex.size; omega) (by simp)⟩
              case measure => simp [intOf] <;> omega
            · have hrf : hasI ros y = false := Bool.eq_false_iff.2 hr
              have hin : hasI (newcTo od ros n m) y = true := by
                have := scan_full hlm hf HN1.out (by rw [HY.out]; exact hrf)
                rwa [HY.out] at this
              go_quiet ((go_at_call 22; exact (asB (refHas_any _ _ _ _ (by first | with_reducible exact fr2 _ | with_reducible exact fm2 _) (by omega)) (by first | with_reducible exact hrf | with_reducible exact hin)).mono fun _ _ h => ⟨h.1, _, h.2.symm⟩))
              go_wp2
              go_roundw
              case rel => exact ⟨m + 1, by omega, by go_num, by rw [HN1.out], hex.trans (Ex.refl wr.heap.size none _).drewN (by have := hex.size; omega) (by simp)⟩
              case measure => simp [intOf] <;> omega
          · have hfd : decide (((newc od ros n).length : Int) < n) = false := decide_eq_false hf
            go_quiet (fail)
            go_wp2
            go_roundw
            case rel => exact ⟨m + 1, by omega, by go_num, by rw [HN1.out], hex.trans (Ex.refl wr.heap.size none _).drewN (by have := hex.size; omega) (by simp)⟩
            case measure => simp [intOf] <;> omega
        · have hd1 : decide (((newcTo od ros n m).length : Int) < ((newc od ros n).length : Int)) = false := decide_eq_false (by omega)
          clear mi
          go_wp2
          go_quiet (fail)
          go_wp2
          by_cases hf : ((newc od ros n).length : Int) < n
          · have hfd : decide (((newc od ros n).length : Int) < n) = true := decide_eq_true hf
            by_cases hr : hasI ros y = true
            · go_quiet ((go_at_call 22; exact (asB (refHas_any _ _ _ _ (fr2 _) (by omega)) hr).mono fun _ _ h => ⟨h.1, _, h.2.symm⟩))
              go_wp2
              go_roundw
              case rel => exact ⟨m + 1, by omega, by go_num, by rw [HN1.out], hex.trans (Ex.refl wr.heap.size none _).drewN (by have := hex.size; omega) (by simp)⟩
              case measure => simp [intOf] <;> omega
            · have hrf : hasI ros y = false := Bool.eq_false_iff.2 hr
              have hin : hasI (newcTo od ros n m) y = true := by
                have := scan_full hlm hf HN1.out (by rw [HY.out]; exact hrf)
                rwa [HY.out] at this
              go_quiet ((go_at_call 22; exact (asB (refHas_any _ _ _ _ (by first | with_reducible exact fr2 _ | with_reducible exact fm2 _) (by omega)) (by first | with_reducible exact hrf | with_reducible exact hin)).mono fun _ _ h => ⟨h.1, _, h.2.symm⟩))
              go_wp2
              go_roundw
              case rel => exact ⟨m + 1, by omega, by go_num, by rw [HN1.out], hex.trans (Ex.refl wr.heap.size none _).drewN (by have := hex.size; omega) (by simp)⟩
              case measure => simp [intOf] <;> omega
          · have hfd : decide (((newc od ros n).length : Int) < n) = false := decide_eq_false hf
            go_quiet (fail)
            go_wp2
            go_roundw
            case rel => exact ⟨m + 1, by omega, by go_num, by rw [HN1.out], hex.trans (Ex.refl wr.heap.size none _).drewN (by have := hex.size; omega) (by simp)⟩
            case measure => simp [intOf] <;> omega
    · obtain rfl : m = od.length := by omega
      clear HT ht2 oi mi fr1
      go_wp2
      exact HQ.out _ _ _ _ _ _ _ _ _ _ _ _ _ _ _ _ _ _ _ _ _ _ _ _ _ _ _ _ _ _ _ _ _ _ _ _ _ _ _ _ _ _ _ _ _ _ _ _ _ hex
end Go.Proofs.Ytgimodjkoincgaa

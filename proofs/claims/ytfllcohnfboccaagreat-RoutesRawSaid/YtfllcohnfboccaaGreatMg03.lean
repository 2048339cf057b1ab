/- slices.Grow of nothing, slices.Concat of two, at ints. No statement of the seat. | slices.SortFunc at the places of a table of routes, up to twelve of them. No statement of the seat. -/
import Derived.Lib.AppendZerosOnto
import Derived.Lib.Walk
import Derived.Lib.SliceRun
import Derived.Test.YtfllcohnfboccaaGreatMg02
import Derived.Shelf.SlSortCmp.InsertionK
import Derived.Sort.LotA
import Derived.Test.YtfllcohnfboccaaGreatMg00
import Derived.Test.YtfllcohnfboccaaGreatRowKG
namespace Go.Proofs.YtfllcohnfboccaaGreat
open Go.RowKit Go.Sort

set_option maxRecDepth 100000 in
set_option maxHeartbeats 4000000 in
theorem growNil_any (n : Nat) (w : World) (hn : n ≤ 1000000) : Calls Tryz.prog 122 #[.slice none 0 0, .int .i64 n] w fun e w' => ∃ (ro : Option Addr) (rc : Nat), e = .returned (.slice ro 0 rc) ∧ OwnI w' w.heap.size ro rc [] ∧ Ex w.heap.size none w w' := by
  obtain ⟨i0, hi, hz0, hz1, hz2⟩ := info_parts infoI3
  have h1 : ¬ ((n : Int) < 0) := by omega
  have h3 : IntKind.i64.wrap (n : Int) = n := IntWalk.i64_in _ (by omega)
  by_cases hn0 : n = 0
  · subst hn0
    clear h3
    go_enter Tryz.func122, Tryz.ntmps122
    go_wp2
    go_ret
    exact ⟨none, 0, rfl, OwnI.nil _ _, Ex.refl _ _ _⟩
  · have h4 : (0 : Int) < (n : Int) := by omega
    have hgG := grownCap_ge w n 0 3
    have hrz : ∀ ty, (Builtin.append_ #[22, 3] ty #[.slice none 0 0, .int .i64 n]).run Tryz.prog w =
        .ok (.slice (some ⟨w.heap.size, 0, none⟩) n (grownCap w n 0 3)) (w.drew.alloc (.cells (Builtin.zeroCells (Value.int .i64 0).cells n ++ Builtin.zeroCells (Value.int .i64 0).cells (grownCap w n 0 3 - n)) 3)) := fun ty => by
      have h := Lib.run_append_grow_zeros (P := Tryz.prog) w 22 3 ty 3 i0 (.int .i64 0) .i64 .i64 Tryz.underlying22 Tryz.underlying3 hi hz0 none 0 0 [] (run_firstCells_none w.drew i0.size 0 0 0) n (by omega) (by omega) (by omega) (by omega) (by rw [hz2]; omega)
        (growslice_fits (need := 0 + n) (old := 0) (by omega) (by rw [hz2]; omega))
      simpa using h
    obtain ⟨G, hG⟩ : ∃ G, G = grownCap w n 0 3 := ⟨_, rfl⟩
    rw [← hG] at hrz hgG
    have hGm : G ≤ maxLen := by rw [hG]; exact grownCap_le_maxLen w n 0 3 (by unfold maxLen; omega)
    have hG63 : (0 : Int) ≤ (G : Int) := by omega
    clear hG
    go_enter Tryz.func122, Tryz.ntmps122
    go_wp2_with (at_builtin; refine Lib.wpList_append_run _ rfl _ _ _ _ rfl _ _ rfl rfl _ _ (hrz _) ?_)
    go_ret
    refine ⟨_, G, rfl, ?_, (Ex.refl _ _ w).drew.alloc (Nat.le_refl _) _⟩
    refine ⟨rfl, .inr ⟨w.heap.size, G, _, rfl, Nat.le_refl _, heap_alloc_new _ _, Nat.zero_le _, hGm, ?_, by simp⟩⟩
    rw [Array.size_append]
    unfold Builtin.zeroCells
    simp
    omega
set_option maxRecDepth 100000 in
set_option maxHeartbeats 4000000 in
/-- slices.Concat of two slices of ints. -/
theorem concat2_any (g : Nat) (a1 a2 : Option Addr) (n1 c1 n2 c2 : Nat) (xs ys : List Int) (w : World) (hx : xs.length = n1) (hy : ys.length = n2) (h1 : n1 ≤ 100000) (h2 : n2 ≤ 100000)
    (hb : w.heap[g]? = some (.cells #[.slice a1 n1 c1, .slice a2 n2 c2] 22 (0, 0))) (hX : IntsAt w a1 xs) (hY : IntsAt w a2 ys) :
    Calls Tryz.prog 77 #[.slice (some ⟨g, 0, none⟩) 2 2] w fun e w' => ∃ (ro : Option Addr) (rc n : Nat), e = .returned (.slice ro n rc) ∧ (xs ++ ys).length = n ∧ IntsAt w' ro (xs ++ ys) ∧ Ex w.heap.size none w w' := by
  have HX := Lib.hid hX
  have HY := Lib.hid hY
  have HNX := Lib.hid hx
  have HNY := Lib.hid hy
  have hgl : g < w.heap.size := (Array.getElem?_eq_some_iff.1 hb).1
  have HC : Hid (∀ w', Ex w.heap.size none w w' → w'.cell? ⟨g, 0, none⟩ = some (.slice a1 n1 c1) ∧ w'.cell? ⟨g, 1, none⟩ = some (.slice a2 n2 c2)) := Lib.hid (fun w' h => by
    have h := (h.block g hgl (by simp)).trans hb
    exact ⟨by rw [cell_of_row _ _ _ _ _ _ h]; rfl, by rw [cell_of_row _ _ _ _ _ _ h]; rfl⟩)
  clear hX hY hx hy hb
  obtain ⟨q0, q1⟩ := HC.out w (Ex.refl _ _ _)
  go_enter Tryz.func77, Tryz.ntmps77
  go_wp2
  go_loopw [3, 5, 11] (fun s _ i wr => ∃ (k m : Nat), i = .int .i64 k ∧ s = .int .i64 m ∧ m ≤ 200000 ∧ ((k = 0 ∧ Hid (m = 0)) ∨ (k = 1 ∧ Hid (m = n1)) ∨ (k = 2 ∧ Hid (m = n1 + n2))) ∧ Hid (wr = w)) (fun _ _ i _ => 2 - (intOf i).toNat)
  case atStart => exact ⟨0, 0, rfl, rfl, by omega, .inl ⟨rfl, Lib.hid rfl⟩, Lib.hid (by first | rfl | trivial)⟩
  case round =>
    obtain ⟨k, m, rfl, rfl, hm2, hkm, HW⟩ := hrel
    have hwr := HW.out.symm
    subst hwr
    rcases hkm with ⟨rfl, HM⟩ | ⟨rfl, HM⟩ | ⟨rfl, HM⟩
    · have hm0 := HM.out
      subst hm0
      have hs : ¬ ((n1 : Int) < 0) := by omega
      go_wp2
      go_roundw
      case rel => exact ⟨1, n1, by go_num, by go_num, by omega, .inr (.inl ⟨rfl, Lib.hid rfl⟩), Lib.hid (by first | rfl | trivial)⟩
      case measure => simp [intOf] <;> omega
    · have hs : ¬ ((m : Int) + (n2 : Int) < 0) := by omega
      have hle : m ≤ 100000 := by have := HM.out; omega
      go_wp2
      go_roundw
      case rel => exact ⟨2, m + n2, by go_num, by go_num, by omega, .inr (.inr ⟨rfl, Lib.hid (by rw [HM.out])⟩), Lib.hid (by first | rfl | trivial)⟩
      case measure => simp [intOf] <;> omega
    · have hmb : m ≤ 1000000 := by omega
      clear q0 q1
      go_upto_region 10 with (go_at_call 122; refine (growNil_any m _ hmb).mono ?_; rintro e w1 ⟨ro, rc, rfl, hown, hex⟩; have HO1 := Lib.hid hown; have HE1 := Lib.hid hex; clear hown hex)
      go_wp2
      go_loopw [6, 8, 27] (fun v _ i wr => ∃ (k : Nat) (ro : Option Addr) (rc n : Nat) (zs : List Int), i = .int .i64 k ∧ v = .slice ro n rc ∧ ((k = 0 ∧ zs = []) ∨ (k = 1 ∧ zs = xs) ∨ (k = 2 ∧ zs = xs ++ ys)) ∧ Hid (zs.length = n) ∧ Hid (OwnI wr w.heap.size ro rc zs) ∧ Ex w.heap.size none w wr) (fun _ _ i _ => 2 - (intOf i).toNat)
      case atStart => exact ⟨0, ro, rc, 0, [], rfl, rfl, .inl ⟨rfl, rfl⟩, Lib.hid rfl, HO1, HE1.out⟩
      case round =>
        obtain ⟨k, ro, rc, n, zs, rfl, rfl, hk, HN, HO, hex⟩ := hrel
        have hsz := hex.size
        have HEX := Lib.hid hex
        obtain ⟨q0, q1⟩ := HC.out wr hex
        clear hex
        rcases hk with ⟨rfl, hzs⟩ | ⟨rfl, hzs⟩ | ⟨rfl, hzs⟩
        · have HL : Hid (zs.length + xs.length = n1) := Lib.hid (by rw [hzs, HNX.out]; exact Nat.zero_add _)
          go_wp2_with (at_builtin; refine wpList_appIs rfl (.tmp 31) (.tmp 32) _ (by rfl) Tryz.underlying22 infoI3 w.heap.size ro rc zs xs _ _ n HN.out.symm rfl (by rfl) (by rfl) ⟨a1, c1, by rw [HNX.out]; rfl, HX.out.keep HEX.out (Nat.le_refl _) (by simp)⟩ HO.out (Ex.refl _ _ wr) (by rw [HL.out]; omega) hsz ?_; intro ro2 rc2 w2 hown2 hex2; have HO2 : Hid (OwnI w2 w.heap.size ro2 rc2 xs) := Lib.hid (by rw [hzs] at hown2; exact hown2); have HE2 := Lib.hid (HEX.out.trans hex2 (Nat.le_refl _) (by simp)); rw [HL.out]; clear hown2 hex2)
          go_roundw
          case rel => exact ⟨1, ro2, rc2, n1, xs, by go_num, rfl, .inr (.inl ⟨rfl, rfl⟩), HNX, HO2, HE2.out⟩
          case measure => simp [intOf] <;> omega
        · have HL : Hid (zs.length + ys.length = n1 + n2) := Lib.hid (by rw [hzs, HNX.out, HNY.out])
          go_wp2_with (at_builtin; refine wpList_appIs rfl (.tmp 31) (.tmp 32) _ (by rfl) Tryz.underlying22 infoI3 w.heap.size ro rc zs ys _ _ n HN.out.symm rfl (by rfl) (by rfl) ⟨a2, c2, by rw [HNY.out]; rfl, HY.out.keep HEX.out (Nat.le_refl _) (by simp)⟩ HO.out (Ex.refl _ _ wr) (by rw [HL.out]; omega) hsz ?_; intro ro2 rc2 w2 hown2 hex2; have HO2 : Hid (OwnI w2 w.heap.size ro2 rc2 (xs ++ ys)) := Lib.hid (by rw [hzs] at hown2; exact hown2); have HE2 := Lib.hid (HEX.out.trans hex2 (Nat.le_refl _) (by simp)); rw [HL.out]; clear hown2 hex2)
          go_roundw
          case rel => exact ⟨2, ro2, rc2, n1 + n2, xs ++ ys, by go_num, rfl, .inr (.inr ⟨rfl, rfl⟩), Lib.hid (by rw [List.length_append, HNX.out, HNY.out]), HO2, HE2.out⟩
          case measure => simp [intOf] <;> omega
        · clear q0 q1
          go_wp2
          go_ret
          exact ⟨ro, rc, n, rfl, by rw [← HN.out, hzs], by have h := HO.out.ints; rw [hzs] at h; exact h, HEX.out⟩
end Go.Proofs.YtfllcohnfboccaaGreat

namespace Go.Proofs
open Go.Shelf
def Tryz.insPlace_ren : Go.Shelf.Ren := ⟨fun | 20 => 164 | n => n, fun | 24 => 115 | 22 => 110 | 3 => 3 | 25 => 118 | 4 => 4 | 0 => 0 | n => n, fun | n => n⟩
theorem Tryz.insPlace : Go.Proofs.SlLaysF0.n20 Tryz.prog Tryz.insPlace_ren := {
  mixed := by kernel_rfl
  f20 := ⟨Tryz.f164.name, by decide, Tryz.func164.trans (congrArg some (by kernel_rfl))⟩
  t0 := Tryz.underlying0
  a0 := Tryz.isAgg0
  z0 := Tryz.sizeOf0
  v0 := Tryz.zeroValue0
  t3 := Tryz.underlying3
  a3 := Tryz.isAgg3
  z3 := Tryz.sizeOf3
  v3 := Tryz.zeroValue3
  t4 := Tryz.underlying4
  a4 := Tryz.isAgg4
  z4 := Tryz.sizeOf4
  v4 := Tryz.zeroValue4
  t22 := Tryz.underlying110
  a22 := Tryz.isAgg110
  z22 := Tryz.sizeOf110
  v22 := Tryz.zeroValue110
  t25 := Tryz.underlying118
  a25 := Tryz.isAgg118
  z25 := Tryz.sizeOf118
  v25 := Tryz.zeroValue118 }
end Go.Proofs
namespace Go.Proofs.YtfllcohnfboccaaGreat
open Go.RowKit Go.Sort

/-- A place: a key, what it is ordered by. -/
abbrev PlD := Int × ByteArray
def plE (p : PlD) : List Value := [.int .i64 p.1, .string p.2]
theorem plE_len (p : PlD) : (plE p).length = 2 := rfl
theorem one_plE : ∀ p, ∀ v ∈ plE p, v.oneCell' = true := fun p v hv => by simp [plE] at hv; rcases hv with rfl | rfl <;> rfl
def plV (p : PlD) : Value := .agg #[.int .i64 p.1, .string p.2]

/-- cmp.Compare of two strings. -/
def lssS (x y : ByteArray) : Bool := Op.bytesLess x.toList y.toList
def cmpS (x y : ByteArray) : Int := if lssS x y then -1 else if x.toList == y.toList then 0 else 1
theorem cmpS_lt (x y : ByteArray) : decide (cmpS x y < 0) = lssS x y := by
  unfold cmpS
  cases lssS x y
  · cases x.toList == y.toList <;> rfl
  · rfl
def byDig (x y : PlD) : Int := cmpS x.2 y.2
theorem swo_byDig : SWO (ltOf byDig) := by
  have e : ∀ x y : PlD, ltOf byDig x y = ltStr x.2.toList y.2.toList := fun x y => by
    unfold ltOf byDig ltStr
    rw [cmpS_lt]
    unfold lssS
    rw [bytesLess_eq]
  refine ⟨fun x => ?_, fun x y z => ?_, fun x y z => ?_⟩
  · rw [e]; exact swo_ltStr.irrefl _
  · rw [e, e, e]; exact swo_ltStr.trans _ _ _
  · rw [e, e, e]; exact swo_ltStr.ntrans _ _ _

theorem isNaNS_any (x : ByteArray) (w : World) : Calls Tryz.prog 128 #[.string x] w fun e w' => e = .returned (.bool false) ∧ w = w' := by
  go_enter Tryz.func128, Tryz.ntmps128
  go_wp2
  go_ret
  exact ⟨by simp, rfl⟩
set_option maxHeartbeats 1000000 in
theorem compareS_any (x y : ByteArray) (w : World) : Calls Tryz.prog 86 #[.string x, .string y] w fun e w' => e = .returned (.int .i64 (cmpS x y)) ∧ w = w' := by
  cases h1 : Op.bytesLess x.toList y.toList with
  | true =>
    have HK : Hid (cmpS x y = -1) := Lib.hid (by unfold cmpS lssS; rw [h1]; rfl)
    go_enter Tryz.func86, Tryz.ntmps86
    go_wp2_with (go_at_call 128; refine (isNaNS_any _ _).mono ?_; rintro e w' ⟨rfl, rfl⟩)
    go_ret
    exact ⟨by rw [HK.out]; rfl, rfl⟩
  | false =>
    cases h2 : x.toList == y.toList with
    | false =>
      have HK : Hid (cmpS x y = 1) := Lib.hid (by unfold cmpS lssS; rw [h1, h2]; rfl)
      have h3 : ¬ x.toList = y.toList := by simpa using h2
      go_enter Tryz.func86, Tryz.ntmps86
      go_wp2_with (go_at_call 128; refine (isNaNS_any _ _).mono ?_; rintro e w' ⟨rfl, rfl⟩)
      go_ret
      exact ⟨by rw [HK.out]; rfl, rfl⟩
    | true =>
      have HK : Hid (cmpS x y = 0) := Lib.hid (by unfold cmpS lssS; rw [h1, h2]; rfl)
      have h3 : x.toList = y.toList := by simpa using h2
      have h4 : Op.bytesLess y.toList y.toList = false := by rw [← h3]; rw [← h3] at h1; exact h1
      go_enter Tryz.func86, Tryz.ntmps86
      go_wp2_with (go_at_call 128; refine (isNaNS_any _ _).mono ?_; rintro e w' ⟨rfl, rfl⟩)
      go_ret
      exact ⟨by rw [HK.out]; rfl, rfl⟩
set_option maxHeartbeats 400000 in
theorem byDig_any (x y : PlD) (w : World) : Calls Tryz.prog 85 #[plV x, plV y] w fun e w' => e = .returned (.int .i64 (byDig x y)) ∧ ∃ q os', w' = grow (w.drewN q) os' := by
  unfold plV byDig
  go_enter Tryz.func85, Tryz.ntmps85
  go_wp2_with (go_at_call 86; refine (compareS_any _ _ _).mono ?_; rintro e w' ⟨rfl, rfl⟩)
  go_ret
  exact ⟨rfl, 0, #[_, _], by rw [alloc_eq_grow, alloc_eq_grow, grow_grow]; rfl⟩
/-- The library's insertion sort at places. -/
theorem insPlace_any (g off cap a b n : Nat) (A B : Int) (hA : (a : Int) = A) (hB : (b : Int) = B) (d : Array PlD) (w : World) (hH : HoldsK plE 2 w g off d) (hg : g < w.heap.size) (hab : a ≤ b) (hb : b ≤ d.size) (hsz : d.size < 4611686018427387904) (hn : d.size = n) :
    Calls Tryz.prog 164 #[.slice (some ⟨g, off, none⟩) n cap, .int .i64 A, .int .i64 B, .func (.func 85) #[] #[]] w fun e w' =>
      e = .returned (.tuple #[]) ∧ ∃ n os, w' = sortWorldK plE 2 w g off n (Sort.insertionSort (ltOf byDig) d a b) os := by
  subst hA hB hn
  exact AnyQ.insertionSortCmpFunc Tryz.insPlace 2 Tryz.isAgg115 Tryz.sizeOf115 plE (fun _ => rfl) one_plE byDig 85 #[] g off cap a b d w
    (enters_of Tryz.func85 (by kernel_rfl) rfl) (fun m os dk _ x y => byDig_any x y _) hH hg hab hb hsz
set_option maxHeartbeats 4000000 in
set_option maxRecDepth 100000 in
/-- pdqsort at up to twelve of them: the insertion sort. -/
theorem pdqPlace_any (g cap n : Nat) (L : Int) (d : Array PlD) (w : World) (hH : HoldsK plE 2 w g 0 d) (hg : g < w.heap.size) (hn : d.size = n) (hm : n ≤ 12) :
    Calls Tryz.prog 127 #[.slice (some ⟨g, 0, none⟩) n cap, .int .i64 0, .int .i64 n, .int .i64 L, .func (.func 85) #[] #[]] w fun e w' =>
      e = .returned (.tuple #[]) ∧ HoldsK plE 2 w' g 0 (Sort.insertionSort (ltOf byDig) d 0 n) ∧ Ex w.heap.size (some g) w w' := by
  have HH := Lib.hid hH
  have HN := Lib.hid hn
  have HP : Hid ((Sort.insertionSort (ltOf byDig) d 0 n).size = d.size) := Lib.hid (insertionSort_holds swo_byDig d 0 n (Nat.zero_le _) (by omega)).1.1
  have hi : (n : Int) ≤ 12 := by omega
  have hd : decide ((n : Int) ≤ 12) = true := decide_eq_true hi
  clear hH hn
  go_enter Tryz.func127, Tryz.ntmps127
  go_wp2
  go_loopw [1, 2] (fun a b wr => a = .int .i64 0 ∧ b = .int .i64 n ∧ wr = w) (fun _ _ _ => 0)
  case atStart => exact ⟨rfl, rfl, rfl⟩
  case round =>
    obtain ⟨rfl, rfl, rfl⟩ := hrel
    go_wp2_with (go_at_call 164; refine (insPlace_any g 0 cap 0 n n 0 n rfl rfl d _ HH.out hg (Nat.zero_le _) (by rw [HN.out]; exact Nat.le_refl _) (by rw [HN.out]; omega) HN.out).mono ?_; rintro e w' ⟨rfl, m, os, rfl⟩)
    refine bodyPost_ret (results_none rfl _ _ _) rfl ?_
    exact ⟨rfl, holdsK_sortWorldK_c plE 2 _ g 0 d _ m os HH.out hg HP.out, ex_sortWorldK plE 2 _ g 0 m _ os⟩
set_option maxHeartbeats 1000000 in
theorem sortPlaces_any (g cap n : Nat) (d : Array PlD) (w : World) (hH : HoldsK plE 2 w g 0 d) (hg : g < w.heap.size) (hn : d.size = n) (hm : n ≤ 12) :
    Calls Tryz.prog 84 #[.slice (some ⟨g, 0, none⟩) n cap, .func (.func 85) #[] #[]] w fun e w' =>
      e = .returned (.tuple #[]) ∧ HoldsK plE 2 w' g 0 (Sort.insertionSort (ltOf byDig) d 0 n) ∧ Ex w.heap.size (some g) w w' := by
  have HH := Lib.hid hH
  have HN := Lib.hid hn
  have hw : IntKind.u64.wrap (n : Int) = n := by rw [IntKind.wrap_u64]; omega
  clear hH hn
  go_enter Tryz.func84, Tryz.ntmps84
  go_wp2_with (first
    | (go_at_call 108; refine (Tryz.bitsLen n _ (by omega) (by omega)).mono ?_; rintro e w' ⟨rfl, rfl⟩)
    | (go_at_call 127; refine (pdqPlace_any g cap n _ d _ HH.out hg HN.out hm).mono ?_; rintro e w' ⟨rfl, hH, hex⟩)
    | fail)
  go_end0
  exact ⟨rfl, hH, hex⟩
end Go.Proofs.YtfllcohnfboccaaGreat

/- The program's mourning.Replace: a contract, no statement of the seat. -/
import Derived.Test.YtagciffmacolfaaMournFollow
import Derived.Test.YtagciffmacolfaaSortInts
import Derived.Test.YtagciffmacolfaaRefReplace
import Derived.Test.YtagciffmacolfaaKey35
namespace Go.Proofs.Ytagciffmacolfaa
open Go.RowKit Go.Sort

theorem keyB_iff {n : Int} : keyB n = true ↔ 0 ≤ n ∧ n < 64 := by simp [keyB]
/-- What the program gathers: the keys among what the keys lead to. -/
def gath (f : Int → Option Int) (l : List Int) (k : Nat) : List Int := (replTo f l k).filter keyB
theorem gath_le (f : Int → Option Int) (l : List Int) (k : Nat) : (gath f l k).length ≤ k := Nat.le_trans (List.length_filter_le _ _) (replTo_le f l k)
theorem gath_yes {f : Int → Option Int} {l : List Int} {k : Nat} {y : Int} (hy : l.getD k 0 = y) (h : keyB y = true) (h2 : keyB (followI f y) = true) : gath f l (k + 1) = gath f l k ++ [followI f y] := by
  unfold gath
  rw [replTo_yes hy (keyB_iff.1 h).1 (keyB_iff.1 h).2, List.filter_append]
  simp [h2]
theorem gath_out {f : Int → Option Int} {l : List Int} {k : Nat} {y : Int} (hy : l.getD k 0 = y) (h : keyB y = true) (h2 : keyB (followI f y) = false) : gath f l (k + 1) = gath f l k := by
  unfold gath
  rw [replTo_yes hy (keyB_iff.1 h).1 (keyB_iff.1 h).2, List.filter_append]
  simp [h2]
theorem gath_no {f : Int → Option Int} {l : List Int} {k : Nat} {y : Int} (hy : l.getD k 0 = y) (h : keyB y = false) : gath f l (k + 1) = gath f l k := by
  unfold gath
  rw [replTo_no hy (by rw [← keyB_iff, h]; simp)]
theorem gath_uniq (f : Int → Option Int) (l : List Int) : uniq (gath f l l.length) = replI f l := by
  rw [uniq_keys _ (fun x hx => by unfold gath at hx; exact keyB_iff.1 (List.mem_filter.1 hx).2)]
  refine strict_ext _ _ (keysTo_strict _ _) (keysTo_strict _ _) fun x => ?_
  unfold replI joinI gath
  rw [mem_keysTo, mem_keysTo]
  simp only [hasI_nil, Bool.or_false, hasI_iff, List.mem_filter, keyB_iff]
  constructor
  · rintro ⟨a, b, c, d⟩; exact ⟨a, b, c⟩
  · rintro ⟨a, b, c⟩; exact ⟨a, b, c, a, by omega⟩

set_option maxHeartbeats 1000000 in
theorem replace_any {P : Nat → Prop} {v u : Value} {hs : List (Int × Int)} {l : List Int} (w : World) (hu : Ints w u l) (hv : Sl heirRep P w v hs) (hm : hs.length ≤ 1000000) (hl : l.length ≤ 1000000) :
    Calls Try.prog 22 #[u, v] w fun e w' => ∃ ro rc, e = .returned (.slice ro (replI (heirI hs) l).length rc) ∧ IntsAt w' ro (replI (heirI hs) l) ∧ Ex w.heap.size none w w' := by
  have hv0 := hv
  obtain ⟨ho, hcap, rfl, hx⟩ := hv
  obtain ⟨ao, cap, rfl, hli⟩ := hu
  clear hx
  go_enter Try.func22, Try.ntmps22
  go_wp2
  go_loopw [5, 11] (fun v i wr => ∃ (k : Nat) (ro : Option Addr) (rc : Nat), k ≤ l.length ∧ i = .int .i64 k ∧ v = .slice ro (gath (heirI hs) l k).length rc ∧ OwnI wr w.heap.size ro rc (gath (heirI hs) l k) ∧ Ex w.heap.size none w wr) (fun _ i _ => l.length - (intOf i).toNat)
  case atStart => exact ⟨0, none, 0, by omega, rfl, rfl, OwnI.nil _ _, Ex.refl _ _ _⟩
  case round =>
    obtain ⟨k, ro, rc, hk, rfl, rfl, hown, hex⟩ := hrel
    have hle := gath_le (heirI hs) l k
    have hsz := hex.size
    have hx1 := hli.keep hex (Nat.le_refl _) (by simp)
    have fv := hv0.keep (by decide) (fun b _ hb => hex.block b hb (by simp))
    by_cases hlt : k < l.length
    · obtain ⟨b, off, y, rfl, hck, HY⟩ := hx1.get k hlt
      cases hky : keyB y with
      | true =>
        have HKY := Lib.hid hky
        clear hky
        cases hkn : keyB (followI (heirI hs) y) with
        | true =>
          have HK := Lib.hid (gath_yes (f := heirI hs) HY.out HKY.out hkn)
          have HKN := Lib.hid hkn
          clear hkn
          go_wp2_with fail
          refine (asB (key_any _ _) HKY.out).mono ?_
          rintro e w' ⟨rfl, rfl⟩
          go_wp2_with fail
          refine (follow_any _ _ fv hm).mono ?_
          rintro e w2 ⟨rfl, hex2⟩
          have hsz2 := hex2.size
          have hown2 := hown.keep hex2 (Nat.le_refl _) (by simp)
          go_wp2_with fail
          refine (asB (key_any _ _) HKN.out).mono ?_
          rintro e w' ⟨rfl, rfl⟩
          go_wp2_with (at_builtin; refine wpList_appI (w0 := w2) rfl _ _ _ rfl Try.underlying25 Try.infoInt w.heap.size ro rc _ w2.heap.size (followI (heirI hs) y) rfl rfl hown2 (Ex.new _ _) (by go_simp) (by omega) (by omega) ?_; intro ro' rc' w1 hown1 hex1)
          go_roundw
          case rel => exact ⟨k + 1, ro', rc', by omega, by go_num, by rw [HK.out, List.length_append]; rfl, by rw [HK.out]; exact hown1, (hex.trans hex2 (by omega) (by simp)).trans hex1 (Nat.le_refl _) (by simp)⟩
          case measure => simp [intOf] <;> omega
        | false =>
          have HK := Lib.hid (gath_out (f := heirI hs) HY.out HKY.out hkn)
          have HKN := Lib.hid hkn
          clear hkn
          go_wp2_with fail
          refine (asB (key_any _ _) HKY.out).mono ?_
          rintro e w' ⟨rfl, rfl⟩
          go_wp2_with fail
          refine (follow_any _ _ fv hm).mono ?_
          rintro e w2 ⟨rfl, hex2⟩
          have hsz2 := hex2.size
          have hown2 := hown.keep hex2 (Nat.le_refl _) (by simp)
          go_wp2_with fail
          refine (asB (key_any _ _) HKN.out).mono ?_
          rintro e w' ⟨rfl, rfl⟩
          go_wp2
          go_roundw
          case rel => exact ⟨k + 1, ro, rc, by omega, by go_num, by rw [HK.out], by rw [HK.out]; exact hown2, hex.trans hex2 (by omega) (by simp)⟩
          case measure => simp [intOf] <;> omega
      | false =>
        have HK := Lib.hid (gath_no (f := heirI hs) HY.out hky)
        have HKY := Lib.hid hky
        clear hky
        go_wp2_with fail
        refine (asB (key_any _ _) HKY.out).mono ?_
        rintro e w' ⟨rfl, rfl⟩
        go_wp2
        go_roundw
        case rel => exact ⟨k + 1, ro, rc, by omega, by go_num, by rw [HK.out], by rw [HK.out]; exact hown, hex⟩
        case measure => simp [intOf] <;> omega
    · obtain rfl : k = l.length := by omega
      go_wp2_with fail
      refine (sortInts_any ro rc _ w.heap.size _ wr hown rfl (by omega)).mono ?_
      rintro e w2 ⟨rfl, hex2, hsd⟩
      have HSD := Lib.hid hsd
      clear hsd
      have hsz2 := hex2.size
      go_wp2_with fail
      refine (compactInts_any ro rc _ w.heap.size _ w2 rfl (by omega) HSD.out (by omega)).mono ?_
      rintro e w3 ⟨rfl, hex3, hints⟩
      go_wp2
      go_ret
      rw [gath_uniq] at hints
      exact ⟨ro, rc, by rw [gath_uniq]; rfl, hints, (hex.trans hex2 (Nat.le_refl _) (by simp)).trans hex3 (Nat.le_refl _) (by simp)⟩
end Go.Proofs.Ytagciffmacolfaa

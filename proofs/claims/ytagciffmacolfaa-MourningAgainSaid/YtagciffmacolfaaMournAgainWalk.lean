/- MourningAgain: the walk of the law. -/
import Derived.Test.YtagciffmacolfaaAgainPlain
import Derived.Test.YtagciffmacolfaaAwake35
import Derived.Test.YtagciffmacolfaaHeirsIn
import Derived.Test.YtagciffmacolfaaOne
import Derived.Test.YtagciffmacolfaaLight
import Derived.Test.YtagciffmacolfaaRoll
import Derived.Test.YtagciffmacolfaaKeys
import Derived.Test.YtagciffmacolfaaHas
namespace Go.Proofs.Ytagciffmacolfaa
open Go.RowKit Go.Sort

theorem lost_take {hs : List (Int × Int)} {y : Int} {k : Nat} {x : Int × Int} (h : hs[k]? = some x) : lostB (hs.take (k + 1)) y = (lostB (hs.take k) y || x.1 == y) := by
  unfold lostB
  rw [List.take_add_one, h]
  simp

set_option maxHeartbeats 2000000 in
set_option maxRecDepth 100000 in
theorem mourningAgain_walk (v : Value) (l : List Int) (w : World) (fl : Ints w v l) (ml : l.length ≤ 9223372036854775807) :
    Calls Try.prog 5 #[v] w fun e w' => e = .returned (.bool true) ∧ Below w.heap.size w w' := by
  have fl0 := fl
  obtain ⟨ao, cap, rfl, hx⟩ := fl
  clear hx
  by_cases h1 : (l.length : Int) ≤ 400
  · have hd1 : decide ((l.length : Int) ≤ 400) = true := decide_eq_true h1
    go_enter Try.func5, Try.ntmps5
    go_wp2_with fail
    refine (asB (light_any ao cap l.length w) hd1).mono ?_
    rintro e w' ⟨rfl, rfl⟩
    go_wp2_with fail
    refine (roll_any _ l w fl0 (by omega)).mono ?_
    rintro e w1 ⟨p, rfl, hdice, hp1, hp2, hex1⟩
    have hs1 := hex1.size
    clear fl0 hd1
    go_wp2
    go_loopw [4, 5] (fun v i wr => ∃ (k : Nat) (ao : Option Addr) (cap : Nat) (hs : List (Int × Int)) (dd : List Int), k ≤ 10 ∧ i = .int .i64 k ∧ v = .slice ao hs.length cap ∧ OwnE encH 2 43 wr w1.heap.size ao cap hs ∧ Good hs ∧ hs.length ≤ k ∧ DiceAt (p + 1) wr p dd ∧ Ex w.heap.size none w wr ∧ w1.heap.size ≤ wr.heap.size) (fun _ i _ => 10 - (intOf i).toNat)
    case atStart => exact ⟨0, none, 0, [], l, by omega, rfl, rfl, OwnE.nil _ _ _ _ _, Good.nil, Nat.le_refl _, hdice, hex1, Nat.le_refl _⟩
    case round =>
      clear hex1 hdice
      obtain ⟨k, ao, cap, hs, dd, hk, rfl, rfl, hown, hgood, hle, hdice, hex, hsw⟩ := hrel
      have HG := Lib.hid hgood
      clear hgood
      have hsz := hex.size
      by_cases hlt : k < 10
      · by_cases hv : dVal dd 2 = 1
        · have hb : (dVal dd 2 == 2 - 1) = true := by rw [hv]; rfl
          clear hv
          go_wp2_with fail
          refine (asB (one_any (p + 1) p dd 2 _ hdice (by omega) (by omega)) hb).mono ?_
          rintro e w2 ⟨rfl, hdice2, hex2⟩
          have hs2 := hex2.size
          have hown2 := hown.keep hex2 (Nat.le_refl _) (fun q e => by cases e; omega)
          go_wp2_with fail
          refine (next_any (p + 1) p dd.tail 5 _ hdice2 (by omega)).mono ?_
          rintro e w3 ⟨rfl, hdice3, hex3⟩
          have hs3 := hex3.size
          have hown3 := hown2.keep hex3 (Nat.le_refl _) (fun q e => by cases e; omega)
          have hbd := dVal_bd (d := dd.tail) (show (1 : Int) ≤ 5 by omega)
          obtain ⟨x, hx⟩ : ∃ x, x = dVal dd.tail 5 := ⟨_, rfl⟩
          rw [← hx] at hbd ⊢
          clear hx
          obtain ⟨x1, x2⟩ := hbd
          go_wp2_with (at_builtin; refine wpList_appE (w0 := w3) rfl (.tmp 25) (.tmp 33) _ 43 rfl Try.underlying38 (.agg #[.int .i64 0, .int .i64 0]) 2 16 Try.infoHeir rfl (by decide) (by decide) encH (fun _ => rfl) one_encH w1.heap.size ao cap hs [((k : Int), (k : Int) + 1 + x)] _ _ _ rfl rfl (by rfl) (some ⟨w3.heap.size, 0, none⟩) 1 1 (by rfl) rfl rfl (lit_cells rfl) hown3 (Ex.new _ _) (by simp; omega) (by omega) ?_; intro ha hcap w4 hown4 hex4)
          go_roundw
          case measure => simp [intOf] <;> omega
          case rel =>
            have e2 : Ex w.heap.size none w w2 := hex.trans ((hex2.mono hsz).above (by omega)) (Nat.le_refl _) (by simp)
            have e3 : Ex w.heap.size none w w3 := e2.trans ((hex3.mono (show w.heap.size ≤ w2.heap.size by omega)).above (by omega)) (Nat.le_refl _) (by simp)
            have e4 : Ex w.heap.size none w w4 := e3.trans (hex4.mono (by omega)) (Nat.le_refl _) (by simp)
            exact ⟨k + 1, ha, hcap, hs ++ [((k : Int), (k : Int) + 1 + x)], dd.tail.tail, by omega, by go_num, by rw [List.length_append]; rfl, hown4, HG.out.snoc (by simp) (by simp; omega) (by simp; omega) (by simp; omega), by simp; omega, hdice3.keep hex4 (by omega), e4, by have := hex4.size; omega⟩
        · have hb : (dVal dd 2 == 2 - 1) = false := by simpa using hv
          clear hv
          go_wp2_with fail
          refine (asB (one_any (p + 1) p dd 2 _ hdice (by omega) (by omega)) hb).mono ?_
          rintro e w2 ⟨rfl, hdice2, hex2⟩
          have hs2 := hex2.size
          have hown2 := hown.keep hex2 (Nat.le_refl _) (fun q e => by cases e; omega)
          go_wp2
          go_roundw
          case measure => simp [intOf] <;> omega
          case rel => exact ⟨k + 1, ao, cap, hs, dd.tail, by omega, by go_num, rfl, hown2, HG.out, by omega, hdice2, hex.trans ((hex2.mono hsz).above (by omega)) (Nat.le_refl _) (by simp), by omega⟩
      · have hhs : HeirsIn wr w1.heap.size (.slice ao hs.length cap) hs := own_heirsIn hown rfl
        clear hown
        have HHS := Lib.hid hhs
        clear hhs
        go_wp2_with fail
        refine (keys_any (p + 1) p dd 15 wr hdice (by omega) (by omega) (by omega)).mono ?_
        rintro e w3 ⟨ro, rc, rfl, hown3, _, hex3⟩
        have hs3 := hex3.size
        have HR : Hid (∀ x ∈ (keysD dd 15).1, 0 ≤ x ∧ x ≤ 14) := fun x hx => by have := keysD_mem (show (1 : Int) ≤ 15 by omega) hx; omega
        have hlr := keysD_len dd (show (1 : Int) ≤ 15 by omega)
        have fh3 := (HHS.out.keep hex3 (Nat.le_refl _) (fun g _ _ => by simp; omega)).sl
        have hE3 : Ex w.heap.size none w w3 := hex.trans ((hex3.mono hsz).above (by omega)) (Nat.le_refl _) (by simp)
        obtain ⟨r, hr⟩ : ∃ r, r = (keysD dd 15).1 := ⟨_, rfl⟩
        rw [← hr] at HR hlr hown3 ⊢
        clear hr hex hex3 hdice
        have fr3 := hown3.v
        clear hown3
        go_wp2_with fail
        refine (replace_any w3 fr3 fh3 (by omega) (by omega)).mono ?_
        rintro e w4 ⟨ro4, rc4, rfl, hi4, hex4⟩
        have hs4 := hex4.size
        have fr4 := fr3.keep hex4 (Nat.le_refl _)
        have fh4 := fh3.keep (by decide) (fun b _ hb => hex4.block b hb (by simp))
        have hla : (replI (heirI hs) r).length ≤ 64 := keysTo_le _ _
        have fa4 : Ints w4 (.slice ro4 (replI (heirI hs) r).length rc4) (replI (heirI hs) r) := ⟨_, _, rfl, hi4⟩
        have hE4 := hE3.trans hex4 (by omega) (by simp)
        clear hi4 hex4 fr3 fh3 hE3
        go_wp2_with fail
        refine (replace_any w4 fa4 fh4 (by omega) (by omega)).mono ?_
        rintro e w5 ⟨ro5, rc5, rfl, hi5, hex5⟩
        have hs5 := hex5.size
        rw [again HG.out.up HR.out] at hi5 ⊢
        have fr5 := fr4.keep hex5 (Nat.le_refl _)
        have fh5 := fh4.keep (by decide) (fun b _ hb => hex5.block b hb (by simp))
        have fa5 := fa4.keep hex5 (Nat.le_refl _)
        have fb5 : Ints w5 (.slice ro5 (replI (heirI hs) r).length rc5) (replI (heirI hs) r) := ⟨_, _, rfl, hi5⟩
        have hE5 := hE4.trans hex5 (by omega) (by simp)
        have HMEM : Hid (∀ y ∈ r, hasI (replI (heirI hs) r) (followI (heirI hs) y) = true) := fun y hy => by
          have h64 : ∀ x ∈ r, 0 ≤ x ∧ x < 64 := fun x hx => by have := HR.out x hx; omega
          obtain ⟨_, c1, c2, _⟩ := follow_facts HG.out.up (HR.out y hy).1 (HR.out y hy).2
          have := (HR.out y hy).1
          rw [hasI_iff, mem_replI h64]
          exact ⟨by omega, by omega, y, hy, rfl⟩
        obtain ⟨aa, haa⟩ : ∃ aa, aa = replI (heirI hs) r := ⟨_, rfl⟩
        rw [← haa] at fa5 fb5 HMEM hla ⊢
        clear haa hi5 hex5 fr4 fh4 fa4 hE4
        have F5 := Lib.hid (And.intro fr5 (And.intro fh5 (And.intro fa5 fb5)))
        clear fr5 fh5 fa5 fb5
        go_wp2
        go_loopw [9] (fun v9 wr => ∃ i : Nat, v9 = .int .i64 i ∧ i ≤ r.length ∧ Ex w5.heap.size none w5 wr) (fun v9 _ => r.length - (intOf v9).toNat)
        case atStart => exact ⟨0, rfl, Nat.zero_le _, Ex.refl _ _ _⟩
        case round =>
          obtain ⟨i, rfl, hi, hex6⟩ := hrel
          have hs6 := hex6.size
          obtain ⟨w6, rfl⟩ : ∃ x : World, x = wr := ⟨_, rfl⟩
          have fr := F5.out.1.keep hex6 (Nat.le_refl _)
          have fh := F5.out.2.1.keep (by decide) (fun b _ hb => hex6.block b hb (by simp))
          have fa := F5.out.2.2.1.keep hex6 (Nat.le_refl _)
          have fb := F5.out.2.2.2.keep hex6 (Nat.le_refl _)
          by_cases hlt2 : i < r.length
          · obtain ⟨b, off, y, rfl, hck, HY⟩ := fr.at'.get i hlt2
            have hym : y ∈ r := by
              have := HY.out
              rw [List.getD_eq_getElem?_getD, List.getElem?_eq_getElem hlt2] at this
              simp at this; subst this; exact List.getElem_mem _
            have hmem := HMEM.out y hym
            have hfol : Hid ((lostB hs y = true → y < followI (heirI hs) y) ∧ (lostB hs y = false → followI (heirI hs) y = y)) := by
              refine ⟨fun h => ?_, fun h => ?_⟩
              · rw [lostB_iff] at h
                obtain ⟨x, hx⟩ := Option.isSome_iff_exists.1 h
                exact (follow_facts HG.out.up (HR.out y hym).1 (HR.out y hym).2).2.2.2 x hx
              · rw [lostB_iff] at h
                exact follow_stay (by simpa using h)
            have HM := Lib.hid hmem
            have FH := Lib.hid fh
            have FA := Lib.hid fa
            clear hym hmem fh fa fb fr
            go_wp2
            go_loopw [10, 11] (fun v10 v11 wr => ∃ (k : Nat), v11 = .int .i64 k ∧ v10 = .bool (lostB (hs.take k) y) ∧ k ≤ hs.length ∧ Ex w6.heap.size none w6 wr) (fun _ v11 _ => hs.length - (intOf v11).toNat)
            case atStart => exact ⟨0, rfl, rfl, Nat.zero_le _, Ex.refl _ _ _⟩
            case round =>
              obtain ⟨k, rfl, rfl, hk, hex7⟩ := hrel
              have hs7 := hex7.size
              obtain ⟨w7, rfl⟩ : ∃ x : World, x = wr := ⟨_, rfl⟩
              have fh7 := FH.out.keep (by decide) (fun b _ hb => hex7.block b hb (by simp))
              have hck7 : w7.cell? ⟨b, off + i, none⟩ = some (.int .i64 y) := hex7.below.cell (p := ⟨b, off + i, none⟩) (World.block_lt_of_cell? w6 _ hck) |>.trans hck
              by_cases hlt3 : k < hs.length
              · obtain ⟨b', off', cs, x, rfl, _, hrr, hR, HX⟩ := fh7.at'.get k hlt3
                have c0 : ∀ q, (w7.drewN q).cell? ⟨b', off' + k * 2, none⟩ = some (.int .i64 x.1) := fun q => hrr 0 _ (by rw [show cs = _ from hR]; rfl)
                have hq7 : ∀ q, (w7.drewN q).cell? ⟨b, off + i, none⟩ = some (.int .i64 y) := fun q => hck7
                have HL := Lib.hid (lost_take (y := y) HX.out)
                have hkz : (k : Int) < hs.length := by omega
                have hiz : (i : Int) < r.length := by omega
                clear hrr hR fh7 hck7
                cases hb : lostB (hs.take k) y with
                | true =>
                  have HB := Lib.hid hb
                  clear hb
                  go_wp2_with fail
                  go_quiet (fail)
                  go_wp2
                  go_roundw
                  case rel => exact ⟨k + 1, by go_num, by rw [HL.out, HB.out]; rfl, by omega, hex7.trans (Ex.refl w7.heap.size none _).drewN hs7 (by simp)⟩
                  case measure => simp [intOf] <;> omega
                | false =>
                  have HB := Lib.hid hb
                  clear hb
                  go_wp2_with fail
                  go_quiet (fail)
                  go_wp2
                  go_roundw
                  case rel => exact ⟨k + 1, by go_num, by rw [HL.out, HB.out]; rfl, by omega, hex7.trans (Ex.refl w7.heap.size none _).drewN hs7 (by simp)⟩
                  case measure => simp [intOf] <;> omega
              · obtain rfl : k = hs.length := by omega
                have HLT : Hid (hs.take hs.length = hs) := List.take_length
                have hex8 := hex6.trans hex7 (by omega) (by simp)
                have fa7 := FA.out.keep hex7 (Nat.le_refl _)
                have hiz : (i : Int) < r.length := by omega
                cases hb : lostB (hs.take hs.length) y with
                | true =>
                  have hb2 : lostB hs y = true := by rw [← HLT.out]; exact hb
                  have HB : Hid (y < followI (heirI hs) y) := hfol.out.1 hb2
                  go_wp2_with fail
                  refine (follow_any y w7 fh7 (by omega)).mono ?_
                  rintro e w8 ⟨rfl, hex9⟩
                  have hs9 := hex9.size
                  have fa8 := fa7.keep hex9 (Nat.le_refl _)
                  have hck8 : w8.cell? ⟨b, off + i, none⟩ = some (.int .i64 y) := hex9.below.cell (p := ⟨b, off + i, none⟩) (World.block_lt_of_cell? w7 _ hck7) |>.trans hck7
                  have hmm := HM.out
                  have hlt9 := HB.out
                  obtain ⟨f, hf⟩ : ∃ f, f = followI (heirI hs) y := ⟨_, rfl⟩
                  rw [← hf] at hmm hlt9 ⊢
                  have HMM := Lib.hid hmm
                  have hdf : decide (f ≤ y) = false := decide_eq_false (by omega)
                  clear hf hck7 fh7 fa7 hck hmm
                  go_wp2_with fail
                  refine (asB (refHas_any _ _ f w8 fa8 (by omega)) HMM.out).mono ?_
                  rintro e w' ⟨rfl, rfl⟩
                  go_wp2
                  go_roundw
                  case rel => exact ⟨i + 1, by go_num, by omega, hex8.trans hex9 (by omega) (by simp)⟩
                  case measure => simp [intOf] <;> omega
                | false =>
                  have hb2 : lostB hs y = false := by rw [← HLT.out]; exact hb
                  have HB : Hid (followI (heirI hs) y = y) := hfol.out.2 hb2
                  go_wp2_with fail
                  refine (follow_any y w7 fh7 (by omega)).mono ?_
                  rw [HB.out]
                  rintro e w8 ⟨rfl, hex9⟩
                  have hs9 := hex9.size
                  have fa8 := fa7.keep hex9 (Nat.le_refl _)
                  have hck8 : w8.cell? ⟨b, off + i, none⟩ = some (.int .i64 y) := hex9.below.cell (p := ⟨b, off + i, none⟩) (World.block_lt_of_cell? w7 _ hck7) |>.trans hck7
                  have HMM : Hid (hasI aa y = true) := by have := HM.out; rwa [HB.out] at this
                  clear hck7 fh7 fa7 hck
                  go_wp2_with fail
                  refine (asB (refHas_any _ _ y w8 fa8 (by omega)) HMM.out).mono ?_
                  rintro e w' ⟨rfl, rfl⟩
                  go_wp2
                  go_roundw
                  case rel => exact ⟨i + 1, by go_num, by omega, hex8.trans hex9 (by omega) (by simp)⟩
                  case measure => simp [intOf] <;> omega
          · obtain rfl : i = r.length := by omega
            clear fr fh
            go_wp2_with fail
            refine (asB (sameInts_any _ _ _ _ w6 fa fb (by omega)) (b := true) (by simp)).mono ?_
            rintro e w7 ⟨rfl, hex7⟩
            have hs7 := hex7.size
            go_wp2_with fail
            refine (awake35_any _).mono ?_
            rintro e w8 ⟨rfl, hex8⟩
            go_wp2
            go_ret
            exact ⟨rfl, (((hE5.trans hex6 (by omega) (by simp)).trans hex7 (by omega) (by simp)).trans hex8 (by omega) (by simp)).below⟩
  · have hd1 : decide ((l.length : Int) ≤ 400) = false := decide_eq_false h1
    go_enter Try.func5, Try.ntmps5
    go_wp2_with fail
    refine (asB (light_any ao cap l.length w) hd1).mono ?_
    rintro e w' ⟨rfl, rfl⟩
    go_wp2_with fail
    refine (awake35_any _).mono ?_
    rintro e w1 ⟨rfl, hex⟩
    go_wp2
    go_ret
    exact ⟨rfl, hex.below⟩
end Go.Proofs.Ytagciffmacolfaa

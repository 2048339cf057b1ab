/- The reference's Back. No statement of the seat. -/
import Derived.Test.YtfllcohnfboccaaGreatMg21
import Derived.Test.YtfllcohnfboccaaGreatMg07
namespace Go.Proofs.YtfllcohnfboccaaGreat
open Go.RowKit Go.Sort Go.Maps

theorem take_two {r : List Int} (h : 2 ≤ r.length) : r.take 2 = [r.getD 0 0, r.getD 1 0] := by
  match r, h with
  | a :: b :: l, _ => rfl
theorem backV_len {salt : ByteArray} {es : List EdD} {r : List Int} (h : r.length < 2 ∨ 101 < r.length) : backV salt es r = false := by
  unfold backV
  rcases h with h | h
  · rw [decide_eq_false (by omega)]; rfl
  · have : lenOK ((r.length - 1 : Nat) : Int) = false := by
      rw [Bool.eq_false_iff]
      intro h2
      have := lenOK_iff.1 h2
      omega
    rw [this]; simp
theorem backV_nb {salt : ByteArray} {es : List EdD} {r : List Int} (h2 : 2 ≤ r.length) (h : r.getD 1 0 ∉ nbI es (r.getD 0 0)) : backV salt es r = false := by
  have e : routeL salt es (r.getD 0 0) (r.getD 1 0) ((r.length - 1 : Nat) : Int) = [] := by
    unfold routeL
    rw [if_neg fun hh => h hh.2]
  unfold backV
  rw [e]
  have : (([] : List Int) == r) = false := by
    match r, h2 with
    | a :: b :: l, _ => rfl
  rw [this]; simp
theorem backV_all {salt : ByteArray} {es : List EdD} {r : List Int} {k : Nat} (hl : r.length = k + 2) (hk : k ≤ 99) (h : r.getD 1 0 ∈ nbI es (r.getD 0 0)) (hr : r.take (k + 2) = rtI (tabI salt es) (r.getD 0 0, r.getD 1 0) k) : backV salt es r = true := by
  rw [List.take_of_length_le (by omega)] at hr
  have e : ((r.length - 1 : Nat) : Int) = (k : Int) + 1 := by omega
  unfold backV
  rw [e, routeL_eq hk h, lenOK_iff.2 (by omega), decide_eq_true (by omega), ← hr]
  simp
theorem backV_step {salt : ByteArray} {es : List EdD} {r : List Int} {k : Nat} (hl : k + 2 < r.length) (h : r.getD 1 0 ∈ nbI es (r.getD 0 0)) (hz : r.getD (k + 2) 0 ≠ nxI (tabI salt es) (prI (tabI salt es) (r.getD 0 0, r.getD 1 0) k).1 (prI (tabI salt es) (r.getD 0 0, r.getD 1 0) k).2) : backV salt es r = false := by
  rw [Bool.eq_false_iff]
  intro hb
  unfold backV at hb
  simp only [Bool.and_eq_true, beq_iff_eq] at hb
  obtain ⟨_, h2, h3⟩ := hb
  have hlen := lenOK_iff.1 h2
  obtain ⟨m, hm⟩ : ∃ m, r.length = m + 2 := ⟨r.length - 2, by omega⟩
  rw [show ((r.length - 1 : Nat) : Int) = (m : Int) + 1 by omega, routeL_eq (by omega) h] at h3
  apply hz
  have h4 := rtI_snd (tabI salt es) (r.getD 0 0, r.getD 1 0) (m := m) (i := k + 1) (by omega)
  rw [h3] at h4
  exact h4
set_option maxHeartbeats 16000000 in
set_option maxRecDepth 100000 in
theorem back20_any {P : Nat → Prop} (sz : Int) (eo : Option Addr) (en ec : Nat) (go : Option Addr) (gn gc : Nat) (es : List EdD) (salt : ByteArray) (ao : Option Addr) (n cap : Nat) (r : List Int) (w : World) (h : SlAt edRep P w eo es) (hn : es.length = en) (hG : GraphT salt es) (hr : IntsAt w ao r) (hrn : r.length = n) (hrm : n ≤ 1000000) :
    Calls Tryz.prog 44 #[.agg #[.int .i64 sz, .slice eo en ec, .slice go gn gc], .string salt, .slice ao n cap] w fun e w' => e = .returned (.bool (backV salt es r)) ∧ Ex w.heap.size none w w' := by
  have HRI := Lib.hid hr
  have HRN := Lib.hid hrn
  clear hr hrn
  have HX := Lib.hid h
  have HN := Lib.hid hn
  have HG := Lib.hid hG
  have hen : en ≤ 1000 := by rw [← hn]; exact hG.len
  clear h hn hG
  go_enter Tryz.func44, Tryz.ntmps44
  go_upto_region 1 with (fail)
  obtain ⟨w1, hw1⟩ : ∃ w1 : World, w1 = w.alloc (.cells #[.int .i64 sz, .slice eo en ec, .slice go gn gc] 64) := ⟨_, rfl⟩
  have HE1 : Hid (Ex w.heap.size none w w1) := Lib.hid (by rw [hw1]; exact Ex.new _ _)
  have hz1 : w.heap.size + 1 ≤ w1.heap.size := by rw [hw1]; simp
  have HC : Hid (∀ w', Ex w1.heap.size none w1 w' → w'.cell? ⟨w.heap.size, 0, none⟩ = some (.int .i64 sz) ∧ w'.cell? ⟨w.heap.size, 1, none⟩ = some (.slice eo en ec) ∧ w'.cell? ⟨w.heap.size, 2, none⟩ = some (.slice go gn gc)) := Lib.hid (fun w' h => by
    have k : w'.heap[w.heap.size]? = some (.cells #[.int .i64 sz, .slice eo en ec, .slice go gn gc] 64 (0, 0)) := (h.block w.heap.size (by omega) (by simp)).trans (by rw [hw1]; exact heap_alloc_new _ _)
    refine ⟨?_, ?_, ?_⟩ <;> (rw [cell_of_row _ _ _ _ _ _ k]; rfl))
  have HXW : Hid (∀ w', Ex w1.heap.size none w1 w' → SlAt edRep P w' eo es) := Lib.hid (fun w' h => HX.out.keep (by decide) fun b _ hb => (h.block b (by omega) (by simp)).trans (HE1.out.block b hb (by simp)))
  rw [← hw1]
  clear hw1
  obtain ⟨c0, c1, c2⟩ := HC.out _ (Ex.refl _ _ w1)
  by_cases h1 : n < 2
  · have d1 : decide ((n : Int) < 2) = true := decide_eq_true (by omega)
    have d1n : decide (n < 2) = true := decide_eq_true h1
    have HV : Hid (backV salt es r = false) := Lib.hid (backV_len (.inl (by rw [HRN.out]; exact h1)))
    go_quiet (fail)
    go_wp2
    go_ret
    exact ⟨by rw [HV.out]; rfl, HE1.out.drewN⟩
  · have d1 : decide ((n : Int) < 2) = false := decide_eq_false (by omega)
    have d1n : decide (n < 2) = false := decide_eq_false h1
    by_cases h2 : 101 < n
    · have d2 : decide ((101 : Int) < (n : Int)) = true := decide_eq_true (by omega)
      have d2n : decide (101 < n) = true := decide_eq_true h2
      have HV : Hid (backV salt es r = false) := Lib.hid (backV_len (.inr (by rw [HRN.out]; exact h2)))
      go_quiet (fail)
      go_wp2
      go_ret
      exact ⟨by rw [HV.out]; rfl, HE1.out.drewN⟩
    · have d2 : decide ((101 : Int) < (n : Int)) = false := decide_eq_false (by omega)
      have d2n : decide (101 < n) = false := decide_eq_false h2
      have h0I : (0 : Int) < (n : Int) := by omega
      have h1I : (1 : Int) < (n : Int) := by omega
      have h0n : 0 < n := by omega
      have h1n : 1 < n := by omega
      obtain ⟨b, off, hao, hcell⟩ := HRI.out 0 (by rw [HRN.out]; exact h0n)
      subst hao
      have HCL : Hid (∀ w', Ex w1.heap.size none w1 w' → ∀ i, i < n → w'.cell? ⟨b, off + i, none⟩ = some (.int .i64 (r.getD i 0))) := Lib.hid (fun w' h i hi => by
        have hc := hcell i (by rw [HRN.out]; exact hi)
        have hbl : b < w.heap.size := World.block_lt_of_cell? w _ hc
        exact (World.cell?_of_block (w := w) (a := ⟨b, off + i, none⟩) ((h.block b (by omega) (by simp)).trans (HE1.out.block b hbl (by simp)))).trans hc)
      obtain ⟨r0, hr0⟩ : ∃ y, y = r.getD 0 0 := ⟨_, rfl⟩
      obtain ⟨r1, hr1⟩ : ∃ y, y = r.getD 1 0 := ⟨_, rfl⟩
      have HR0 := Lib.hid hr0
      have HR1 := Lib.hid hr1
      have cr0 : w1.cell? ⟨b, off, none⟩ = some (.int .i64 r0) := by have h := HCL.out _ (Ex.refl _ _ w1) 0 h0n; rw [Nat.add_zero] at h; rw [h, hr0]
      have cr1 : w1.cell? ⟨b, off + 1, none⟩ = some (.int .i64 r1) := by rw [HCL.out _ (Ex.refl _ _ w1) 1 h1n, hr1]
      have HQ1 : Hid (∀ w', Ex w1.heap.size none w1 w' → w'.cell? ⟨w.heap.size, 0, none⟩ = some (.int .i64 sz) ∧ w'.cell? ⟨w.heap.size, 1, none⟩ = some (.slice eo en ec) ∧ w'.cell? ⟨w.heap.size, 2, none⟩ = some (.slice go gn gc) ∧ w'.cell? ⟨b, off, none⟩ = some (.int .i64 r0) ∧ w'.cell? ⟨b, off + 1, none⟩ = some (.int .i64 r1)) := Lib.hid (fun w' h => by
        obtain ⟨z0, z1, z2⟩ := HC.out _ h
        refine ⟨z0, z1, z2, ?_, ?_⟩
        · have h := HCL.out _ h 0 h0n
          rw [Nat.add_zero] at h
          rw [h, hr0]
        · rw [HCL.out _ h 1 h1n, hr1])
      clear hcell hr0 hr1
      cases hb : hasI (nbI es r0) r1 with
      | false =>
        have HV : Hid (backV salt es r = false) := Lib.hid (backV_nb (by rw [HRN.out]; omega) (by
          rw [← HR0.out, ← HR1.out]
          intro hm
          rw [hasI_iff.2 hm] at hb
          cases hb))
        go_region_held3 (fun w' => w'.cell? ⟨w.heap.size, 0, none⟩ = some (.int .i64 sz) ∧ w'.cell? ⟨w.heap.size, 1, none⟩ = some (.slice eo en ec) ∧ w'.cell? ⟨w.heap.size, 2, none⟩ = some (.slice go gn gc) ∧ w'.cell? ⟨b, off, none⟩ = some (.int .i64 r0) ∧ w'.cell? ⟨b, off + 1, none⟩ = some (.int .i64 r1)) (first | exact HQ1.out _ HEw2.out | exact HQ1.out _ (Ex.refl _ _ w1).drew | exact HQ1.out _ (Ex.refl _ _ w1) | fail)
          (first
            | (go_at_call 38
               refine (nb20_any sz eo en ec go gn gc es r0 _ (HXW.out _ (Ex.refl _ none w1).drew) HN.out (by omega)).mono ?_
               rintro e w2 ⟨no2, nc2, nn2, rfl, hnn, hown, hex⟩
               have HNN2 := Lib.hid hnn
               have HNI2 := Lib.hid hown.ints
               have HEw2 : Hid (Ex w1.heap.size none w1 w2) := Lib.hid (((Ex.refl _ none w1).drew).trans hex (Nat.le_refl _) (by simp))
               have hzw2 : w1.heap.size ≤ w2.heap.size := HEw2.out.size
               have hnn2 : nn2 ≤ 12 := (by rw [← hnn]; exact HG.out.few _)
               clear hnn hown hex)
            | (go_at_call 88
               refine (has11_any _ (nbI es r0) r1 w2 ⟨no2, nc2, by rw [HNN2.out], HNI2.out⟩ (by rw [HNN2.out]; omega)).mono ?_
               rw [hb]
               rintro e w' ⟨rfl, rfl⟩)
            | fail)
        go_wp2
        go_ret
        exact ⟨by rw [HV.out]; rfl, HE1.out.trans HEw2.out (by omega) (by simp)⟩
      | true =>
        have HM : Hid (r1 ∈ nbI es r0) := Lib.hid (hasI_iff.1 hb)
        have HF : Hid (r0 ∈ tabI salt es r1) := Lib.hid (HG.out.tabs.sym _ _ (mem_tabI.2 HM.out))
        go_region_held3 (fun w' => w'.cell? ⟨w.heap.size, 0, none⟩ = some (.int .i64 sz) ∧ w'.cell? ⟨w.heap.size, 1, none⟩ = some (.slice eo en ec) ∧ w'.cell? ⟨w.heap.size, 2, none⟩ = some (.slice go gn gc) ∧ w'.cell? ⟨b, off, none⟩ = some (.int .i64 r0) ∧ w'.cell? ⟨b, off + 1, none⟩ = some (.int .i64 r1)) (first | exact HQ1.out _ HEw2.out | exact HQ1.out _ (Ex.refl _ _ w1).drew | exact HQ1.out _ (Ex.refl _ _ w1) | fail)
          (first
            | (go_at_call 38
               refine (nb20_any sz eo en ec go gn gc es r0 _ (HXW.out _ (Ex.refl _ none w1).drew) HN.out (by omega)).mono ?_
               rintro e w2 ⟨no2, nc2, nn2, rfl, hnn, hown, hex⟩
               have HNN2 := Lib.hid hnn
               have HNI2 := Lib.hid hown.ints
               have HEw2 : Hid (Ex w1.heap.size none w1 w2) := Lib.hid (((Ex.refl _ none w1).drew).trans hex (Nat.le_refl _) (by simp))
               have hzw2 : w1.heap.size ≤ w2.heap.size := HEw2.out.size
               have hnn2 : nn2 ≤ 12 := (by rw [← hnn]; exact HG.out.few _)
               clear hnn hown hex)
            | (go_at_call 88
               refine (has11_any _ (nbI es r0) r1 w2 ⟨no2, nc2, by rw [HNN2.out], HNI2.out⟩ (by rw [HNN2.out]; omega)).mono ?_
               rw [hb]
               rintro e w' ⟨rfl, rfl⟩)
            | fail)
        clear c0 c1 c2 cr0 cr1
        go_upto_region 4 with (fail)
        go_loopw [7] (fun i wr => ∃ (k c : Nat), i = .int .i64 (c : Int) ∧ Hid (c = k + 2) ∧ c ≤ n ∧ Hid (r.take (k + 2) = rtI (tabI salt es) (r0, r1) k) ∧ Hid (Ex w2.heap.size none w2 wr)) (fun i _ => n - (intOf i).toNat)
        case atStart => exact ⟨0, 2, rfl, Lib.hid rfl, by omega, Lib.hid (by rw [take_two (by rw [HRN.out]; omega), ← HR0.out, ← HR1.out]; rfl), Lib.hid (Ex.refl _ _ _)⟩
        case round =>
          obtain ⟨k, c, rfl, HCK, hcn, HTK, HEX⟩ := hrel
          have hsz : w2.heap.size ≤ wr.heap.size := HEX.out.size
          have HEW : Hid (Ex w1.heap.size none w1 wr) := Lib.hid (HEw2.out.trans HEX.out hzw2 (by simp))
          have hzr : w1.heap.size ≤ wr.heap.size := HEW.out.size
          obtain ⟨c0, c1, c2⟩ := HC.out _ HEW.out
          by_cases hlt : c < n
          · have hltI : (c : Int) < (n : Int) := by omega
            have hltd : decide (c < n) = true := decide_eq_true hlt
            obtain ⟨k1, hk1⟩ : ∃ k1, k1 = k + 1 := ⟨_, rfl⟩
            have hw0 : IntKind.i64.wrap ((c : Int) - 2) = (k : Int) := by have := HCK.out; rw [IntWalk.i64_in _ (by omega)]; omega
            have hw1' : IntKind.i64.wrap ((c : Int) - 1) = (k1 : Int) := by have := HCK.out; rw [IntWalk.i64_in _ (by omega)]; omega
            have hkn : k < n := by have := HCK.out; omega
            have hk1n : k1 < n := by have := HCK.out; omega
            have hknI : (k : Int) < (n : Int) := by omega
            have hk1nI : (k1 : Int) < (n : Int) := by omega
            obtain ⟨a, ha⟩ : ∃ a, a = (prI (tabI salt es) (r0, r1) k).1 := ⟨_, rfl⟩
            obtain ⟨d, hd⟩ : ∃ d, d = (prI (tabI salt es) (r0, r1) k).2 := ⟨_, rfl⟩
            obtain ⟨z, hz⟩ : ∃ z, z = r.getD c 0 := ⟨_, rfl⟩
            have hgt : ∀ i, i < k + 2 → r.getD i 0 = (rtI (tabI salt es) (r0, r1) k).getD i 0 := fun i hi => by
              rw [← HTK.out]
              simp [List.getD, hi]
            have ca : wr.cell? ⟨b, off + k, none⟩ = some (.int .i64 a) := by rw [HCL.out _ HEW.out k hkn, hgt k (by omega), rtI_fst _ _ (Nat.le_refl k), ha]
            have cd : wr.cell? ⟨b, off + k1, none⟩ = some (.int .i64 d) := by rw [HCL.out _ HEW.out k1 hk1n, hk1, hgt (k + 1) (by omega), rtI_snd _ _ (Nat.le_refl k), hd]
            have cz : wr.cell? ⟨b, off + c, none⟩ = some (.int .i64 z) := by rw [HCL.out _ HEW.out c hlt, hz]
            obtain ⟨y, hy⟩ : ∃ y, y = nxI (tabI salt es) a d := ⟨_, rfl⟩
            have HNX : Hid (nx20 (tabI salt es) a d = y) := Lib.hid (by
              unfold nx20
              rw [if_pos (by rw [ha, hd]; exact pr_mem HG.out.tabs (e := (r0, r1)) HF.out k), hy])
            have HZ : Hid (r.getD (k + 2) 0 = z) := Lib.hid (by rw [hz, HCK.out])
            have HY : Hid (y = nxI (tabI salt es) (prI (tabI salt es) (r0, r1) k).1 (prI (tabI salt es) (r0, r1) k).2) := Lib.hid (by rw [hy, ha, hd])
            have HNC : Hid (∀ pw : ExW wr, Calls Tryz.prog 89 #[.agg #[.int .i64 sz, .slice eo en ec, .slice go gn gc], .string salt, .int .i64 a, .int .i64 d] pw.w' fun e w' => e = .returned (.int .i64 y) ∧ Ex pw.w'.heap.size none pw.w' w') := Lib.hid (fun pw => (next20_any sz eo en ec go gn gc es salt a d pw.w' (HXW.out _ (HEW.out.trans pw.ex hzr (by simp))) HN.out HG.out).mono fun e w' h => ⟨by rw [h.1, HNX.out], h.2⟩)
            have g0 := fun pw : ExW wr => pw.cellG c0
            have g1 := fun pw : ExW wr => pw.cellG c1
            have g2 := fun pw : ExW wr => pw.cellG c2
            have g3 := fun pw : ExW wr => pw.cellG ca
            have g4 := fun pw : ExW wr => pw.cellG cd
            have g5 := fun pw : ExW wr => pw.cellG cz
            clear hgt ha hd hz hy c0 c1 c2 ca cd cz hk1
            go_upto_region 6 with (fail)
            by_cases hyz : y = z
            · have hed : (y == z) = true := by simpa using hyz
              have HTK2 : Hid (r.take (k + 1 + 2) = rtI (tabI salt es) (r0, r1) (k + 1)) := Lib.hid (by
                have e : r.take (k + 2 + 1) = r.take (k + 2) ++ [z] := take_getD r (by rw [HRN.out]; have := HCK.out; omega) HZ.out
                rw [show k + 1 + 2 = k + 2 + 1 by omega, e, HTK.out, rtI_succ, ← HY.out, hyz])
              clear hyz
              refine wp_region_quiet_ex (by kernel_rfl) (by kernel_rfl) ?_
              repeat (go_big_quiet_step (first | (go_at_call 89; refine calls_ex_of (HNC.out _)) | fail))
              refine wpQuiet_nil ?_
              intro _ hw'
              obtain ⟨p9, hw''⟩ := hw'
              subst hw''
              clear g0 g1 g2 g3 g4 g5 hw0 hw1'
              go_wp2
              go_roundw
              case rel => exact ⟨k + 1, c + 1, by go_num, Lib.hid (by rw [HCK.out]), by omega, HTK2, Lib.hid (HEX.out.trans p9.ex hsz (by simp))⟩
              case measure => simp [intOf] <;> omega
            · have hed : (y == z) = false := by simpa using hyz
              have HV : Hid (backV salt es r = false) := Lib.hid (backV_step (k := k) (by rw [HRN.out]; have := HCK.out; omega) (by rw [← HR0.out, ← HR1.out]; exact HM.out) (by
                rw [HZ.out, ← HR0.out, ← HR1.out, ← HY.out]
                exact fun e => hyz e.symm))
              clear hyz
              refine wp_region_quiet_ex (by kernel_rfl) (by kernel_rfl) ?_
              repeat (go_big_quiet_step (first | (go_at_call 89; refine calls_ex_of (HNC.out _)) | fail))
              refine wpQuiet_nil ?_
              intro _ hw'
              obtain ⟨p9, hw''⟩ := hw'
              subst hw''
              clear g0 g1 g2 g3 g4 g5 hw0 hw1'
              go_wp2
              go_ret
              exact ⟨by rw [HV.out]; rfl, HE1.out.trans (HEW.out.trans p9.ex hzr (by simp)) (by omega) (by simp)⟩
          · have hltI : ¬ (c : Int) < (n : Int) := by omega
            have hltd : decide (c < n) = false := decide_eq_false hlt
            have HV : Hid (backV salt es r = true) := Lib.hid (backV_all (k := k) (by rw [HRN.out]; have := HCK.out; omega) (by have := HCK.out; omega) (by rw [← HR0.out, ← HR1.out]; exact HM.out) (by rw [← HR0.out, ← HR1.out]; exact HTK.out))
            go_wp2
            go_ret
            exact ⟨by rw [HV.out]; rfl, HE1.out.trans HEW.out (by omega) (by simp)⟩
end Go.Proofs.YtfllcohnfboccaaGreat

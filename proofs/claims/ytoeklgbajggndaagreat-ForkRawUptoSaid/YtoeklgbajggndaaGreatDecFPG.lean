/- trustflow/fork.Decode: a contract. No statement of the seat. -/
import Derived.Test.YtoeklgbajggndaaGreatChkFPG
import Derived.Test.YtoeklgbajggndaaGreatMg15
import Derived.Test.YtoeklgbajggndaaGreatMg06
import Derived.Test.YtoeklgbajggndaaGreatMg12
import Derived.Laws.ResultCell
namespace Go.Proofs.YtoeklgbajggndaaGreat
open Go.RowKit Go.Sort
attribute [local go_sem ↓] rowStore_st rowLoad_st rowStore_fork rowLoad_fork

/-- What is taken off, by name. -/
def decFPTk (xs : List UInt8) (m : Int) (f : ByteArray) (r : List UInt8) (b : Bool) (mr : Nat) : Prop := f = ((takeT xs m).getD (⟨#[]⟩, [])).1 ∧ r = ((takeT xs m).getD (⟨#[]⟩, [])).2 ∧ b = (takeT xs m).isSome ∧ mr = r.length
theorem decFPTk_ex (xs : List UInt8) (m : Int) : ∃ f r b mr, decFPTk xs m f r b mr := ⟨_, _, _, _, rfl, rfl, rfl, rfl⟩
theorem decFPTk.len {xs : List UInt8} {m : Int} {f : ByteArray} {r : List UInt8} {b : Bool} {mr : Nat} (h : decFPTk xs m f r b mr) : f.size ≤ xs.length ∧ r.length ≤ xs.length := by
  obtain ⟨h1, h2, _, _⟩ := h
  cases ht : takeT xs m with
  | none => rw [ht] at h1 h2; rw [h1, h2]; exact ⟨Nat.zero_le _, Nat.zero_le _⟩
  | some q =>
    rw [ht] at h1 h2
    have := congrArg List.length (takeT_back ht)
    simp only [List.length_append, int8_len, strL_len] at this
    rw [h1, h2]
    simp only [Option.getD_some]
    omega
theorem decFPTk_any {P : Nat → Prop} (v : Value) (xs : List UInt8) (m : Int) (f : ByteArray) (r : List UInt8) (b : Bool) (mr : Nat) (w : World) (hv : SlC P w v xs) (hm : xs.length ≤ 1000000) (h : decFPTk xs m f r b mr) :
    Calls Tryz.prog 50 #[v, .int .i64 m] w fun e w' => ∃ ao cap, e = .returned (.tuple #[.string f, .slice ao mr cap, .bool b]) ∧ SlC (fun b => w.heap.size ≤ b) w' (.slice ao mr cap) r ∧ Ex w.heap.size none w w' := by
  obtain ⟨rfl, rfl, rfl, rfl⟩ := h
  refine (takeText_any v xs m w hv hm).mono fun e w' ⟨u, h1, ⟨ao, cap, h2, h3, h4⟩, h5⟩ => ?_
  subst h2
  exact ⟨ao, cap, h1, ⟨ao, cap, rfl, h3, h4⟩, h5⟩

set_option maxHeartbeats 16000000 in
set_option maxRecDepth 100000 in
theorem decFP_any {P : Nat → Prop} (v : Value) (xs : List UInt8) (s t : St) (c : Int) (w : World) (hv : SlC P w v xs) (hm : xs.length ≤ 500) (hd : DecF xs s t c) :
    Calls Tryz.prog 21 #[v] w fun e w' => ∃ (lo : Option Addr) (ln lc : Nat) (po : Option Addr) (pn pc : Nat) (lb : Option Addr) (nb cb : Nat) (pb : Option Addr) (mp cq : Nat), e = .returned (.tuple #[.agg (rFk s lo ln lc po pn pc t lb nb cb pb mp cq), .int .i64 c]) ∧ Lies (fun b => w.heap.size ≤ b) w' (s, ⟨lo, ln, lc⟩, ⟨po, pn, pc⟩) ∧ Lies (fun b => w.heap.size ≤ b) w' (t, ⟨lb, nb, cb⟩, ⟨pb, mp, cq⟩) ∧ Ex w.heap.size none w w' := by
  have HDI := Lib.hid hd
  clear hd
  obtain ⟨ao, cap, rfl, hc, hx⟩ := hv
  obtain ⟨m, hml⟩ : ∃ m, m = xs.length := ⟨_, rfl⟩
  have HML := Lib.hid hml
  have hm5 : m ≤ 500 := by omega
  obtain ⟨w0, hw0⟩ : ∃ w0 : World, w0 = w.alloc (.cells zFk 29) := ⟨_, rfl⟩
  have hz0 : w.heap.size < w0.heap.size := by rw [hw0]; simp
  have HX0 : Hid (Ex w.heap.size none w w0) := by rw [hw0]; exact Ex.new w _
  have HR0 : Hid (w0.heap[w.heap.size]? = some (.cells zFk 29 (0, 0))) := Lib.hid (by rw [hw0]; exact heap_alloc_new w _)
  have HPX : Hid (SlC P w0 (.slice ao m cap) xs) := Lib.hid ⟨ao, cap, by rw [hml], hc, hx.keep (by decide) fun b hb hlt => HX0.out.block b hlt (by simp)⟩
  rw [← hml]
  obtain ⟨f1, r1, b1, mr1, hk1⟩ := decFPTk_ex xs m
  obtain ⟨f2, r2, b2, mr2, hk2⟩ := decFPTk_ex r1 m
  have HK1 := Lib.hid hk1
  have HK2 := Lib.hid hk2
  have hf1 : f1.size ≤ 500 := by have := hk1.len.1; omega
  have hf2 : f2.size ≤ 500 := by have := hk2.len.1; have := hk1.len.2; omega
  have HL1 : Hid (r1.length ≤ 500) := Lib.hid (by have := hk1.len.2; omega)
  obtain ⟨x, c1, hd1, hc1⟩ := decIs_ex (strL f1)
  obtain ⟨y, c2, hd2, hc2⟩ := decIs_ex (strL f2)
  have HD1 := Lib.hid hd1
  have HD2 := Lib.hid hd2
  clear hx hml hc hk1 hk2 hd1 hd2
  go_enter Tryz.func21, Tryz.ntmps21
  go_upto_region 1 with (fail)
  rw [← hw0]
  clear hw0
  go_upto_region 3 with (first
    | (go_at_call 50
       fail_if_success (first | have _x := HX1 | fail)
       refine (decFPTk_any (.slice ao m cap) xs m f1 r1 b1 mr1 w0 HPX.out (by omega) HK1.out).mono ?_
       rintro e w1 ⟨a1, cap1, rfl, hs, hex⟩
       have HX1 : Hid (Ex w.heap.size none w w1) := Lib.hid (HX0.out.trans hex (by omega) (by simp))
       have HR1 := Lib.hid ((hex.block w.heap.size hz0 (by simp)).trans HR0.out)
       have HS1 := Lib.hid hs
       have hz1 : w0.heap.size ≤ w1.heap.size := hex.size
       clear hs hex)
    | (go_at_call 50
       fail_if_success (first | have _x := HX2 | fail)
       refine (decFPTk_any (.slice a1 mr1 cap1) r1 m f2 r2 b2 mr2 w1 HS1.out (by have := HL1.out; omega) HK2.out).mono ?_
       rintro e w2 ⟨a2, cap2, rfl, hs, hex⟩
       have HX2 : Hid (Ex w.heap.size none w w2) := Lib.hid (HX1.out.trans hex (by omega) (by simp))
       have HR2 := Lib.hid ((hex.block w.heap.size (by omega) (by simp)).trans HR1.out)
       have hz2 : w1.heap.size ≤ w2.heap.size := hex.size
       clear hs hex)
    | fail)
  have HT1 : Hid (b1 = true → takeT xs 1048576 = some (f1, r1)) := Lib.hid (fun h => by
    obtain ⟨h1, h2, h3, _⟩ := HK1.out
    rw [takeT_most (m' := 1048576) (by have := HML.out; omega) (by omega)] at h1 h2 h3
    rw [h] at h3
    obtain ⟨q, hq⟩ := Option.isSome_iff_exists.1 h3.symm
    rw [hq] at h1 h2 ⊢
    simp only [Option.getD_some] at h1 h2
    rw [h1, h2])
  have HN1 : Hid (b1 = false → decF xs = none) := Lib.hid (fun h => by
    obtain ⟨_, _, h3, _⟩ := HK1.out
    rw [takeT_most (m' := 1048576) (by have := HML.out; omega) (by omega), h] at h3
    have hn : takeT xs 1048576 = none := by
      cases h4 : takeT xs 1048576 with
      | none => rfl
      | some q => rw [h4] at h3; cases h3
    unfold decF
    rw [hn]
    rfl)
  have HT2 : Hid (b2 = true → takeT r1 1048576 = some (f2, r2)) := Lib.hid (fun h => by
    obtain ⟨h1, h2, h3, _⟩ := HK2.out
    rw [takeT_most (m' := 1048576) (by have := HK1.out.len.2; have := HML.out; omega) (by have := HL1.out; omega)] at h1 h2 h3
    rw [h] at h3
    obtain ⟨q, hq⟩ := Option.isSome_iff_exists.1 h3.symm
    rw [hq] at h1 h2 ⊢
    simp only [Option.getD_some] at h1 h2
    rw [h1, h2])
  have HN2 : Hid (b1 = true → b2 = false → decF xs = none) := Lib.hid (fun h1 h => by
    obtain ⟨_, _, h3, _⟩ := HK2.out
    rw [takeT_most (m' := 1048576) (by have := HK1.out.len.2; have := HML.out; omega) (by have := HL1.out; omega), h] at h3
    have hn : takeT r1 1048576 = none := by
      cases h4 : takeT r1 1048576 with
      | none => rfl
      | some q => rw [h4] at h3; cases h3
    unfold decF
    rw [HT1.out h1]
    simp only [Option.bind_some]
    rw [hn]
    rfl)
  have HD0 : Hid (b1 = true → b2 = true → decF xs = if r2 = [] then (decS (strL f1)).bind fun s => (decS (strL f2)).bind fun t => if forkCheckI s t = 0 then some (s, t) else none else none) := Lib.hid (fun h1 h2 => by
    unfold decF
    rw [HT1.out h1]
    simp only [Option.bind_some]
    rw [HT2.out h2]
    rfl)
  have HMR : Hid (mr2 = r2.length) := Lib.hid HK2.out.2.2.2
  obtain ⟨cv1, wc1, hcv1, hsl1, hxc1⟩ := conv_bytes w2 f1
  have HSL1 := Lib.hid hsl1
  have HXC1 : Hid (Ex w.heap.size none w wc1) := Lib.hid (HX2.out.trans hxc1 (by omega) (by simp))
  have HRC1 := Lib.hid ((hxc1.block w.heap.size (by omega) (by simp)).trans HR2.out)
  have hzc1 : w2.heap.size ≤ wc1.heap.size := hxc1.size
  clear hsl1 hxc1
  go_upto_region 4 with (first
    | (go_at_call 51
       refine (decP_any (.slice (some ⟨w2.heap.size, 0, none⟩) f1.size cv1) (strL f1) x c1 wc1 HSL1.out (by rw [strL_len]; omega) HD1.out).mono ?_
       rintro e w3 ⟨lo, ln, lc, po, pn, pc, rfl, hls, hex⟩
       have hz3 : wc1.heap.size ≤ w3.heap.size := hex.size
       have HX3 : Hid (Ex w.heap.size none w w3) := Lib.hid (HXC1.out.trans hex (by omega) (by simp))
       have HR3 := Lib.hid ((hex.block w.heap.size (by omega) (by simp)).trans HRC1.out)
       have hst := run_rowStore (P := Tryz.prog) (w3.alloc (.cells zSt 27)) w3.heap.size 27 27 zSt (rSt x lo ln lc po pn pc) (heap_alloc_new w3 _) Tryz.sizeStm rfl (by simp [Value.oneCell'])
       obtain ⟨w4, hw4⟩ : ∃ w4, w4 = (w3.alloc (.cells zSt 27)).setRow w3.heap.size (rSt x lo ln lc po pn pc) := ⟨_, rfl⟩
       rw [← hw4] at hst
       have hx4 : Ex w3.heap.size none w3 w4 := by rw [hw4]; exact (Ex.new w3 _).setRow _ _ (.inr (Nat.le_refl _))
       have HA4 : Hid (w4.heap[w3.heap.size]? = some (.cells (rSt x lo ln lc po pn pc) 27 (0, 0))) := Lib.hid (by rw [hw4]; exact setRow_heap _ _ _ _ _ _ (heap_alloc_new w3 _))
       have hz4 : w3.heap.size < w4.heap.size := by rw [hw4]; simp [World.setRow]
       have HX4 : Hid (Ex w.heap.size none w w4) := Lib.hid (HX3.out.trans hx4 (by omega) (by simp))
       have HR4 := Lib.hid ((hx4.block w.heap.size (by omega) (by simp)).trans HR3.out)
       have HLS4 := Lib.hid (hls.keep fun b _ hb => hx4.block b hb (by simp))
       clear hls hex hw4 hx4 hcv1)
    | fail)
  clear hst
  obtain ⟨cv2, wc2, hcv2, hsl2, hxc2⟩ := conv_bytes w4 f2
  have HSL2 := Lib.hid hsl2
  have HXC2 : Hid (Ex w.heap.size none w wc2) := Lib.hid (HX4.out.trans hxc2 (by omega) (by simp))
  have HRC2 := Lib.hid ((hxc2.block w.heap.size (by omega) (by simp)).trans HR4.out)
  have HAC2 := Lib.hid ((hxc2.block w3.heap.size hz4 (by simp)).trans HA4.out)
  have HLC2 := Lib.hid (HLS4.out.keep fun b _ hb => hxc2.block b hb (by simp))
  have hzc2 : w4.heap.size ≤ wc2.heap.size := hxc2.size
  clear hsl2 hxc2
  go_upto_region 5 with (first
    | (go_at_call 51
       refine (decP_any (.slice (some ⟨w4.heap.size, 0, none⟩) f2.size cv2) (strL f2) y c2 wc2 HSL2.out (by rw [strL_len]; omega) HD2.out).mono ?_
       rintro e w5 ⟨lb, nb, cb, pb, mp, cq, rfl, hls, hex⟩
       have hz5 : wc2.heap.size ≤ w5.heap.size := hex.size
       have HX5 : Hid (Ex w.heap.size none w w5) := Lib.hid (HXC2.out.trans hex (by omega) (by simp))
       have HR5 := Lib.hid ((hex.block w.heap.size (by omega) (by simp)).trans HRC2.out)
       have HA5 := Lib.hid ((hex.block w3.heap.size (by omega) (by simp)).trans HAC2.out)
       have HL5 := Lib.hid (HLC2.out.keep fun b _ hb => hex.block b hb (by simp))
       have hst := run_rowStore (P := Tryz.prog) (w5.alloc (.cells zSt 27)) w5.heap.size 27 27 zSt (rSt y lb nb cb pb mp cq) (heap_alloc_new w5 _) Tryz.sizeStm rfl (by simp [Value.oneCell'])
       obtain ⟨w6, hw6⟩ : ∃ w6, w6 = (w5.alloc (.cells zSt 27)).setRow w5.heap.size (rSt y lb nb cb pb mp cq) := ⟨_, rfl⟩
       rw [← hw6] at hst
       have hx6 : Ex w5.heap.size none w5 w6 := by rw [hw6]; exact (Ex.new w5 _).setRow _ _ (.inr (Nat.le_refl _))
       have HB6 : Hid (w6.heap[w5.heap.size]? = some (.cells (rSt y lb nb cb pb mp cq) 27 (0, 0))) := Lib.hid (by rw [hw6]; exact setRow_heap _ _ _ _ _ _ (heap_alloc_new w5 _))
       have hz6 : w5.heap.size < w6.heap.size := by rw [hw6]; simp [World.setRow]
       have HX6 : Hid (Ex w.heap.size none w w6) := Lib.hid (HX5.out.trans hx6 (by omega) (by simp))
       have HR6 := Lib.hid ((hx6.block w.heap.size (by omega) (by simp)).trans HR5.out)
       have HA6 := Lib.hid ((hx6.block w3.heap.size (by omega) (by simp)).trans HA5.out)
       have HL6 := Lib.hid (HL5.out.keep fun b _ hb => hx6.block b hb (by simp))
       have HM6 := Lib.hid (hls.keep fun b _ hb => hx6.block b hb (by simp))
       clear hls hex hw6 hx6 hcv2)
    | fail)
  clear hst
  have hl1 := run_rowLoad (P := Tryz.prog) w6 w3.heap.size 27 27 (rSt x lo ln lc po pn pc) (0, 0) _ HA6.out Tryz.underlying27 rfl Tryz.sizeStm
  have hl2 := run_rowLoad (P := Tryz.prog) w6 w5.heap.size 27 27 (rSt y lb nb cb pb mp cq) (0, 0) _ HB6.out Tryz.underlying27 rfl Tryz.sizeStm
  have hst := run_rowStore (P := Tryz.prog) (w6.alloc (.cells zFk 29)) w6.heap.size 29 29 zFk (rFk x lo ln lc po pn pc y lb nb cb pb mp cq) (heap_alloc_new w6 _) Tryz.sizeFork rfl (by simp [Value.oneCell'])
  obtain ⟨w7, hw7⟩ : ∃ w7, w7 = (w6.alloc (.cells zFk 29)).setRow w6.heap.size (rFk x lo ln lc po pn pc y lb nb cb pb mp cq) := ⟨_, rfl⟩
  rw [← hw7] at hst
  have hx7 : Ex w6.heap.size none w6 w7 := by rw [hw7]; exact (Ex.new w6 _).setRow _ _ (.inr (Nat.le_refl _))
  have HO7 : Hid (w7.heap[w6.heap.size]? = some (.cells (rFk x lo ln lc po pn pc y lb nb cb pb mp cq) 29 (0, 0))) := Lib.hid (by rw [hw7]; exact setRow_heap _ _ _ _ _ _ (heap_alloc_new w6 _))
  have hz7 : w6.heap.size < w7.heap.size := by rw [hw7]; simp [World.setRow]
  have HX7 : Hid (Ex w.heap.size none w w7) := Lib.hid (HX6.out.trans hx7 (by omega) (by simp))
  have HR7 := Lib.hid ((hx7.block w.heap.size (by omega) (by simp)).trans HR6.out)
  have HL7 := Lib.hid (HL6.out.keep fun b _ hb => hx7.block b hb (by simp))
  have HM7 := Lib.hid (HM6.out.keep fun b _ hb => hx7.block b hb (by simp))
  clear hw7 hx7
  go_upto_region 6 with (fail)
  clear hl1 hl2 hst
  cases b1 with
  | false =>
    have hst := run_rowStore (P := Tryz.prog) w7 w.heap.size 29 29 zFk zFk HR7.out Tryz.sizeFork rfl (by simp [Value.oneCell'])
    obtain ⟨wz, hw⟩ : ∃ wz, wz = w7.setRow w.heap.size zFk := ⟨_, rfl⟩
    rw [← hw] at hst
    have HRz : Hid (wz.heap[w.heap.size]? = some (.cells zFk 29 (0, 0))) := Lib.hid (by rw [hw]; exact setRow_heap _ _ _ _ _ _ HR7.out)
    have HXz : Hid (Ex w.heap.size none w wz) := Lib.hid (by rw [hw]; exact HX7.out.setRow _ _ (.inr (Nat.le_refl _)))
    have HNO : Hid (decF xs = none) := Lib.hid (HN1.out rfl)
    clear hw
    go_wp2_with (fail)
    clear hst
    have hr := run_loadVar_row (P := Tryz.prog) wz w.heap.size 29 29 zFk (0, 0) _ HRz.out Tryz.underlying29 rfl Tryz.sizeFork
    refine bodyPost_ret (v := .tuple #[.agg zFk, .int .i64 1]) ?_ rfl ?_
    · rw [results_cell_tmp Tryz.results21]
      show ((loadVar 29 ⟨w.heap.size, 0, none⟩).run Tryz.prog _).andThen _ = _
      rw [hr]
      rfl
    obtain ⟨rfl, rfl, rfl⟩ : s = zeroSt ∧ t = zeroSt ∧ c = 1 := by
      rcases HDI.out with ⟨h, _⟩ | ⟨_, h1, h2, h3⟩
      · rw [HNO.out] at h; cases h
      · exact ⟨h1, h2, h3⟩
    exact ⟨none, 0, 0, none, 0, 0, none, 0, 0, none, 0, 0, rfl, Lies.zero _ _, Lies.zero _ _, HXz.out⟩
  | true =>
    cases b2 with
    | false =>
      have hst := run_rowStore (P := Tryz.prog) w7 w.heap.size 29 29 zFk zFk HR7.out Tryz.sizeFork rfl (by simp [Value.oneCell'])
      obtain ⟨wz, hw⟩ : ∃ wz, wz = w7.setRow w.heap.size zFk := ⟨_, rfl⟩
      rw [← hw] at hst
      have HRz : Hid (wz.heap[w.heap.size]? = some (.cells zFk 29 (0, 0))) := Lib.hid (by rw [hw]; exact setRow_heap _ _ _ _ _ _ HR7.out)
      have HXz : Hid (Ex w.heap.size none w wz) := Lib.hid (by rw [hw]; exact HX7.out.setRow _ _ (.inr (Nat.le_refl _)))
      have HNO : Hid (decF xs = none) := Lib.hid (HN2.out rfl rfl)
      clear hw
      go_wp2_with (fail)
      clear hst
      have hr := run_loadVar_row (P := Tryz.prog) wz w.heap.size 29 29 zFk (0, 0) _ HRz.out Tryz.underlying29 rfl Tryz.sizeFork
      refine bodyPost_ret (v := .tuple #[.agg zFk, .int .i64 1]) ?_ rfl ?_
      · rw [results_cell_tmp Tryz.results21]
        show ((loadVar 29 ⟨w.heap.size, 0, none⟩).run Tryz.prog _).andThen _ = _
        rw [hr]
        rfl
      obtain ⟨rfl, rfl, rfl⟩ : s = zeroSt ∧ t = zeroSt ∧ c = 1 := by
        rcases HDI.out with ⟨h, _⟩ | ⟨_, h1, h2, h3⟩
        · rw [HNO.out] at h; cases h
        · exact ⟨h1, h2, h3⟩
      exact ⟨none, 0, 0, none, 0, 0, none, 0, 0, none, 0, 0, rfl, Lies.zero _ _, Lies.zero _ _, HXz.out⟩
    | true =>
      have HDX := Lib.hid (HD0.out rfl rfl)
      clear HD0 HN1 HN2 HT1 HT2
      by_cases hm0 : mr2 = 0
      · have HR2E : Hid (r2 = []) := Lib.hid (List.eq_nil_of_length_eq_zero (by rw [← HMR.out]; exact hm0))
        subst hm0
        by_cases h1 : c1 = 0
        · subst h1
          by_cases h2 : c2 = 0
          · subst h2
            obtain ⟨q, hq⟩ : ∃ q, q = forkCheckI x y := ⟨_, rfl⟩
            have HQ := Lib.hid hq
            have HCK : Hid (Calls Tryz.prog 15 #[.agg (rFk x lo ln lc po pn pc y lb nb cb pb mp cq)] w7 fun e w'' => e = .returned (.int .i64 q) ∧ Ex w7.heap.size none w7 w'') := Lib.hid (by rw [hq]; exact checkFP_any x y lo po ln lc pn pc lb pb nb cb mp cq w7 (HL7.out.mono (P' := fun _ => True) fun _ _ _ => trivial) (HM7.out.mono (P' := fun _ => True) fun _ _ _ => trivial) HD1.out.tame HD2.out.tame)
            have hlf := run_rowLoad (P := Tryz.prog) w7 w6.heap.size 29 29 (rFk x lo ln lc po pn pc y lb nb cb pb mp cq) (0, 0) _ HO7.out Tryz.underlying29 rfl Tryz.sizeFork
            clear hq
            by_cases h0 : q = 0
            · subst h0
              have HDF : Hid (decF xs = some (x, y)) := Lib.hid (by rw [HDX.out, if_pos HR2E.out, HD1.out.some]; simp only [Option.bind_some]; rw [HD2.out.some]; simp only [Option.bind_some]; rw [if_pos HQ.out.symm])
              go_upto_region 8 with (first
                | (go_at_call 15
                   refine HCK.out.mono ?_
                   rintro e w8 ⟨rfl, hex⟩
                   have hz8 : w7.heap.size ≤ w8.heap.size := hex.size
                   have HX8 : Hid (Ex w.heap.size none w w8) := Lib.hid (HX7.out.trans hex (by omega) (by simp))
                   have HR8 := Lib.hid ((hex.block w.heap.size (by omega) (by simp)).trans HR7.out)
                   have HO8 := Lib.hid ((hex.block w6.heap.size hz7 (by simp)).trans HO7.out)
                   have HL8 := Lib.hid (HL7.out.keep fun b _ hb => hex.block b hb (by simp))
                   have HM8 := Lib.hid (HM7.out.keep fun b _ hb => hex.block b hb (by simp))
                   clear hex hlf)
                | fail)
              have hlf := run_rowLoad (P := Tryz.prog) w8 w6.heap.size 29 29 (rFk x lo ln lc po pn pc y lb nb cb pb mp cq) (0, 0) _ HO8.out Tryz.underlying29 rfl Tryz.sizeFork
              have hst := run_rowStore (P := Tryz.prog) w8 w.heap.size 29 29 zFk (rFk x lo ln lc po pn pc y lb nb cb pb mp cq) HR8.out Tryz.sizeFork rfl (by simp [Value.oneCell'])
              obtain ⟨wz, hw⟩ : ∃ wz, wz = w8.setRow w.heap.size (rFk x lo ln lc po pn pc y lb nb cb pb mp cq) := ⟨_, rfl⟩
              rw [← hw] at hst
              have HRz : Hid (wz.heap[w.heap.size]? = some (.cells (rFk x lo ln lc po pn pc y lb nb cb pb mp cq) 29 (0, 0))) := Lib.hid (by rw [hw]; exact setRow_heap _ _ _ _ _ _ HR8.out)
              have HXz : Hid (Ex w.heap.size none w wz) := Lib.hid (by rw [hw]; exact HX8.out.setRow _ _ (.inr (Nat.le_refl _)))
              have HKz : Hid (Ex w8.heap.size (some w.heap.size) w8 wz) := Lib.hid (by rw [hw]; exact (Ex.refl _ _ _).setRow _ _ (.inl rfl))
              clear hw
              go_wp2_with (fail)
              clear hst hlf
              have hr := run_loadVar_row (P := Tryz.prog) wz w.heap.size 29 29 (rFk x lo ln lc po pn pc y lb nb cb pb mp cq) (0, 0) _ HRz.out Tryz.underlying29 rfl Tryz.sizeFork
              refine bodyPost_ret (v := .tuple #[.agg (rFk x lo ln lc po pn pc y lb nb cb pb mp cq), .int .i64 0]) ?_ rfl ?_
              · rw [results_cell_tmp Tryz.results21]
                show ((loadVar 29 ⟨w.heap.size, 0, none⟩).run Tryz.prog _).andThen _ = _
                rw [hr]
                rfl
              obtain ⟨hs, ht, rfl⟩ : s = x ∧ t = y ∧ c = 0 := by
                rcases HDI.out with ⟨h, h2⟩ | ⟨h, _⟩
                · rw [HDF.out] at h
                  have h3 := Option.some.inj h
                  simp only [Prod.mk.injEq] at h3
                  exact ⟨h3.1.symm, h3.2.symm, h2⟩
                · rw [HDF.out] at h; cases h
              subst hs ht
              exact ⟨lo, ln, lc, po, pn, pc, lb, nb, cb, pb, mp, cq, rfl, (HL8.out.keep fun b hb hlt => HKz.out.block b hlt (by intro e; have := Option.some.inj e; omega)).mono fun b hb _ => by omega, (HM8.out.keep fun b hb hlt => HKz.out.block b hlt (by intro e; have := Option.some.inj e; omega)).mono fun b hb _ => by omega, HXz.out⟩
            · have hqb : (q == 0) = false := by simpa using h0
              go_upto_region 7 with (first
                | (go_at_call 15
                   refine HCK.out.mono ?_
                   rintro e w8 ⟨rfl, hex⟩
                   have HX8 : Hid (Ex w.heap.size none w w8) := Lib.hid (HX7.out.trans hex (by omega) (by simp))
                   have HR8 := Lib.hid ((hex.block w.heap.size (by omega) (by simp)).trans HR7.out)
                   clear hex hlf)
                | fail)
              have hst := run_rowStore (P := Tryz.prog) w8 w.heap.size 29 29 zFk zFk HR8.out Tryz.sizeFork rfl (by simp [Value.oneCell'])
              obtain ⟨wz, hw⟩ : ∃ wz, wz = w8.setRow w.heap.size zFk := ⟨_, rfl⟩
              rw [← hw] at hst
              have HRz : Hid (wz.heap[w.heap.size]? = some (.cells zFk 29 (0, 0))) := Lib.hid (by rw [hw]; exact setRow_heap _ _ _ _ _ _ HR8.out)
              have HXz : Hid (Ex w.heap.size none w wz) := Lib.hid (by rw [hw]; exact HX8.out.setRow _ _ (.inr (Nat.le_refl _)))
              have HNO : Hid (decF xs = none) := Lib.hid (by rw [HDX.out, if_pos HR2E.out, HD1.out.some]; simp only [Option.bind_some]; rw [HD2.out.some]; simp only [Option.bind_some]; rw [if_neg (fun h => h0 (HQ.out.trans h))])
              clear hw
              go_wp2_with (fail)
              clear hst
              have hr := run_loadVar_row (P := Tryz.prog) wz w.heap.size 29 29 zFk (0, 0) _ HRz.out Tryz.underlying29 rfl Tryz.sizeFork
              refine bodyPost_ret (v := .tuple #[.agg zFk, .int .i64 1]) ?_ rfl ?_
              · rw [results_cell_tmp Tryz.results21]
                show ((loadVar 29 ⟨w.heap.size, 0, none⟩).run Tryz.prog _).andThen _ = _
                rw [hr]
                rfl
              obtain ⟨rfl, rfl, rfl⟩ : s = zeroSt ∧ t = zeroSt ∧ c = 1 := by
                rcases HDI.out with ⟨h, _⟩ | ⟨_, h1, h2, h3⟩
                · rw [HNO.out] at h; cases h
                · exact ⟨h1, h2, h3⟩
              exact ⟨none, 0, 0, none, 0, 0, none, 0, 0, none, 0, 0, rfl, Lies.zero _ _, Lies.zero _ _, HXz.out⟩
          · have h2b : (c2 == 0) = false := by simpa using h2
            have hst := run_rowStore (P := Tryz.prog) w7 w.heap.size 29 29 zFk zFk HR7.out Tryz.sizeFork rfl (by simp [Value.oneCell'])
            obtain ⟨wz, hw⟩ : ∃ wz, wz = w7.setRow w.heap.size zFk := ⟨_, rfl⟩
            rw [← hw] at hst
            have HRz : Hid (wz.heap[w.heap.size]? = some (.cells zFk 29 (0, 0))) := Lib.hid (by rw [hw]; exact setRow_heap _ _ _ _ _ _ HR7.out)
            have HXz : Hid (Ex w.heap.size none w wz) := Lib.hid (by rw [hw]; exact HX7.out.setRow _ _ (.inr (Nat.le_refl _)))
            have HNO : Hid (decF xs = none) := Lib.hid (by rw [HDX.out, if_pos HR2E.out, HD1.out.some]; simp only [Option.bind_some]; rw [HD2.out.none h2]; rfl)
            clear hw
            go_wp2_with (fail)
            clear hst
            have hr := run_loadVar_row (P := Tryz.prog) wz w.heap.size 29 29 zFk (0, 0) _ HRz.out Tryz.underlying29 rfl Tryz.sizeFork
            refine bodyPost_ret (v := .tuple #[.agg zFk, .int .i64 1]) ?_ rfl ?_
            · rw [results_cell_tmp Tryz.results21]
              show ((loadVar 29 ⟨w.heap.size, 0, none⟩).run Tryz.prog _).andThen _ = _
              rw [hr]
              rfl
            obtain ⟨rfl, rfl, rfl⟩ : s = zeroSt ∧ t = zeroSt ∧ c = 1 := by
              rcases HDI.out with ⟨h, _⟩ | ⟨_, h1, h2, h3⟩
              · rw [HNO.out] at h; cases h
              · exact ⟨h1, h2, h3⟩
            exact ⟨none, 0, 0, none, 0, 0, none, 0, 0, none, 0, 0, rfl, Lies.zero _ _, Lies.zero _ _, HXz.out⟩
        · have h1b : (c1 == 0) = false := by simpa using h1
          have hst := run_rowStore (P := Tryz.prog) w7 w.heap.size 29 29 zFk zFk HR7.out Tryz.sizeFork rfl (by simp [Value.oneCell'])
          obtain ⟨wz, hw⟩ : ∃ wz, wz = w7.setRow w.heap.size zFk := ⟨_, rfl⟩
          rw [← hw] at hst
          have HRz : Hid (wz.heap[w.heap.size]? = some (.cells zFk 29 (0, 0))) := Lib.hid (by rw [hw]; exact setRow_heap _ _ _ _ _ _ HR7.out)
          have HXz : Hid (Ex w.heap.size none w wz) := Lib.hid (by rw [hw]; exact HX7.out.setRow _ _ (.inr (Nat.le_refl _)))
          have HNO : Hid (decF xs = none) := Lib.hid (by rw [HDX.out, if_pos HR2E.out, HD1.out.none h1]; rfl)
          clear hw
          go_wp2_with (fail)
          clear hst
          have hr := run_loadVar_row (P := Tryz.prog) wz w.heap.size 29 29 zFk (0, 0) _ HRz.out Tryz.underlying29 rfl Tryz.sizeFork
          refine bodyPost_ret (v := .tuple #[.agg zFk, .int .i64 1]) ?_ rfl ?_
          · rw [results_cell_tmp Tryz.results21]
            show ((loadVar 29 ⟨w.heap.size, 0, none⟩).run Tryz.prog _).andThen _ = _
            rw [hr]
            rfl
          obtain ⟨rfl, rfl, rfl⟩ : s = zeroSt ∧ t = zeroSt ∧ c = 1 := by
            rcases HDI.out with ⟨h, _⟩ | ⟨_, h1, h2, h3⟩
            · rw [HNO.out] at h; cases h
            · exact ⟨h1, h2, h3⟩
          exact ⟨none, 0, 0, none, 0, 0, none, 0, 0, none, 0, 0, rfl, Lies.zero _ _, Lies.zero _ _, HXz.out⟩
      · have hm0I : 0 < (mr2 : Int) := by omega
        have hm0d : decide (0 < (mr2 : Int)) = true := decide_eq_true hm0I
        have hst := run_rowStore (P := Tryz.prog) w7 w.heap.size 29 29 zFk zFk HR7.out Tryz.sizeFork rfl (by simp [Value.oneCell'])
        obtain ⟨wz, hw⟩ : ∃ wz, wz = w7.setRow w.heap.size zFk := ⟨_, rfl⟩
        rw [← hw] at hst
        have HRz : Hid (wz.heap[w.heap.size]? = some (.cells zFk 29 (0, 0))) := Lib.hid (by rw [hw]; exact setRow_heap _ _ _ _ _ _ HR7.out)
        have HXz : Hid (Ex w.heap.size none w wz) := Lib.hid (by rw [hw]; exact HX7.out.setRow _ _ (.inr (Nat.le_refl _)))
        have HNO : Hid (decF xs = none) := Lib.hid (by rw [HDX.out, if_neg (fun h => hm0 (by rw [HMR.out, h]; rfl))])
        clear hw
        go_wp2_with (fail)
        clear hst
        have hr := run_loadVar_row (P := Tryz.prog) wz w.heap.size 29 29 zFk (0, 0) _ HRz.out Tryz.underlying29 rfl Tryz.sizeFork
        refine bodyPost_ret (v := .tuple #[.agg zFk, .int .i64 1]) ?_ rfl ?_
        · rw [results_cell_tmp Tryz.results21]
          show ((loadVar 29 ⟨w.heap.size, 0, none⟩).run Tryz.prog _).andThen _ = _
          rw [hr]
          rfl
        obtain ⟨rfl, rfl, rfl⟩ : s = zeroSt ∧ t = zeroSt ∧ c = 1 := by
          rcases HDI.out with ⟨h, _⟩ | ⟨_, h1, h2, h3⟩
          · rw [HNO.out] at h; cases h
          · exact ⟨h1, h2, h3⟩
        exact ⟨none, 0, 0, none, 0, 0, none, 0, 0, none, 0, 0, rfl, Lies.zero _ _, Lies.zero _ _, HXz.out⟩
end Go.Proofs.YtoeklgbajggndaaGreat

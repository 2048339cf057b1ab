/- AttackerForks: the walk of the law. -/
import Derived.Test.YtaakacahblndcaaGreatMg16
import Derived.Test.YtaakacahblndcaaGreatMg02
import Derived.Test.YtaakacahblndcaaGreatDiceWG
import Derived.Test.YtaakacahblndcaaGreatCounted04G
import Derived.Test.YtaakacahblndcaaGreatMg07
import Derived.Test.YtaakacahblndcaaGreatMg05
import Derived.Test.YtaakacahblndcaaGreatMg15
import Derived.Test.YtaakacahblndcaaGreatMg14
namespace Go.Proofs.YtaakacahblndcaaGreat
open Go.RowKit Go.Sort
attribute [local go_sem ↓] rowLoad_stv rowStore_stv rowBuild_stv rowLoad_peer rowStore_peer rowStore_fork
theorem peer_new (w : World) (me : Int) (ao : Option Addr) (n cap : Nat) : (rowStore 31 ⟨w.heap.size, 0, none⟩ (.agg #[.int .i64 me, .slice ao n cap])).run Tryz.prog (w.alloc (.cells #[.int .i64 0, .slice none 0 0] 31)) = .ok () (w.alloc (.cells #[.int .i64 me, .slice ao n cap] 31)) := by
  have h := peer_store (heap_alloc_new w (.cells #[.int .i64 0, .slice none 0 0] 31)) rfl me ao n cap
  rw [alloc_setRow] at h
  exact h

theorem bds_u8 {a : Int} (h : (Lit.int .u8 a).wf = true) : 0 ≤ a ∧ a ≤ 255 := by
  simp only [Lit.wf, Bool.and_eq_true, decide_eq_true_eq] at h
  exact h
theorem counted04n {P : Nat → Prop} (v : Value) (l : List St) (a : Int) (m : Nat) (w : World) (hv : Sl stRep P w v l) (hm : l.length ≤ 100000) (ht : TameL l) (hc : (countedI a l).length = m) :
    Calls Tryz.prog 13 #[.int .i64 a, v] w fun e w' => ∃ ro rc, e = .returned (.slice ro m rc) ∧ Ex w.heap.size none w w' := by
  refine (counted04_any v l a w hv hm ht).mono ?_
  rintro e w' ⟨ro, rc, he, _, hex⟩
  rw [hc] at he
  exact ⟨ro, rc, he, hex⟩
theorem of05n {P : Nat → Prop} (ao : Option Addr) (n cap : Nat) (l : List St) (a : Int) (w : World) (hn : n = l.length) (hx : SlAt stRep P w ao l) (hm : l.length ≤ 100000) (hl : LightL 1000000 l) (ha : l.filter (fun s => decide (s.author = a)) = l) :
    Calls Tryz.prog 17 #[.agg #[.slice ao n cap], .int .i64 a] w fun e w' => ∃ ro rc, e = .returned (.slice ro n rc) ∧ Sl stRep (fun _ => True) w' (.slice ro n rc) l ∧ Ex w.heap.size none w w' := by
  subst hn
  refine (of05_any ao cap l a w hx hm hl).mono ?_
  rintro e w' ⟨ro, rc, he, ho, hex⟩
  rw [ha] at he ho
  exact ⟨ro, rc, he, (OwnS.sl ho).mono (by decide) fun _ _ _ => trivial, hex⟩

set_option maxHeartbeats 32000000 in
set_option maxRecDepth 100000 in
theorem attackerForks_walk (v : Value) (b : Int) (l : List Int) (w : World) (fl : Ints w v l) (ml : l.length ≤ 9223372036854775807) (hb : 0 ≤ b ∧ b ≤ 255) :
    Calls Tryz.prog 3 #[v, .int .u8 b] w fun e w' => e = .returned (.bool true) ∧ Below w.heap.size w w' := by
  have fl0 := fl
  obtain ⟨ao, cap, rfl, hx⟩ := fl
  clear hx
  obtain ⟨b1, b2⟩ := hb
  by_cases h1 : (l.length : Int) ≤ 400
  · have HFL := Lib.hid fl0
    clear fl0
    go_enter Tryz.func3, Tryz.ntmps3
    go_upto_region 4 with (first
      | (go_at_call 6
         refine (light_any _ _ _ _).mono ?_
         rintro e w' ⟨rfl, rfl⟩)
      | (go_at_call 8
         refine (roll_any _ l _ HFL.out (by omega)).mono ?_
         rintro e w1 ⟨p, rfl, hd, hp1, hp2, hex1⟩
         have HD1 : Hid (DiceOK (p + 1) w1 p) := Lib.hid ⟨_, hd⟩
         have HE1 : Hid (Ex w.heap.size none w w1) := Lib.hid hex1
         clear hd hex1)
      | fail)
    have hst1 := peer_new w1 2 none 0 0
    obtain ⟨w2, hw2⟩ : ∃ w2 : World, w2 = w1.alloc (.cells #[.int .i64 2, .slice none 0 0] 31) := ⟨_, rfl⟩
    rw [← hw2] at hst1
    have HB2 : Hid (w2.heap[w1.heap.size]? = some (.cells #[.int .i64 2, .slice none 0 0] 31 (0, 0))) := Lib.hid (by rw [hw2]; exact heap_alloc_new w1 _)
    have HE2 : Hid (Ex w1.heap.size none w1 w2) := Lib.hid (by rw [hw2]; exact Ex.new w1 _)
    have hz2 : w2.heap.size = w1.heap.size + 1 := by rw [hw2]; simp
    have hz1 := HE1.out.size
    have HD2 : Hid (DiceOK (p + 1) w2 p) := Lib.hid (HD1.out.keep HE2.out (by omega))
    clear hw2
    go_upto_region 7 with (first
      | (go_at_call 9
         refine (next_w (p + 1) p 6 w2 HD2.out (by omega) (by omega)).mono ?_
         rintro e w3 ⟨k, rfl, hk, hd3, hex3⟩
         have HE3 : Hid (Ex w2.heap.size (some p) w2 w3) := Lib.hid hex3
         clear hd3 hex3)
      | fail)
    have hk5 : k < 6 := by omega
    clear hk
    have hz3 := HE3.out.size
    obtain ⟨pb, hpb⟩ : ∃ pb, pb = w1.heap.size := ⟨_, rfl⟩
    rw [← hpb]
    have HB3 : Hid (w3.heap[pb]? = some (.cells #[.int .i64 2, .slice none 0 0] 31 (0, 0))) := Lib.hid (by rw [hpb]; exact (HE3.out.block _ (by omega) (by intro h; have := Option.some.inj h; omega)).trans HB2.out)
    have HX3 : Hid (Ex w.heap.size none w w3) := Lib.hid ((HE1.out.trans HE2.out hz1 (by simp)).trans HE3.out (by omega) (fun q hq _ => by cases hq; omega))
    have hpb1 : w.heap.size ≤ pb := by omega
    have hpb3 : pb < w3.heap.size := by omega
    clear hpb hst1
    go_loopw [8] (fun v wr => ∃ (i : Nat) (ro : Option Addr) (rc : Nat), i ≤ k + 1 ∧ v = .int .i64 i ∧ Hid (wr.heap[pb]? = some (.cells #[.int .i64 2, .slice ro i rc] 31 (0, 0))) ∧ Hid (SlAt stRep (fun b => b ≠ pb ∧ b < wr.heap.size) wr ro (lA i)) ∧ Hid (Ex w3.heap.size (some pb) w3 wr) ∧ Ex w.heap.size none w wr) (fun v _ => k + 1 - (intOf v).toNat)
    case atStart => exact ⟨0, none, 0, by omega, rfl, HB3, Lib.hid (SlAt.nil _ _ _), Lib.hid (Ex.refl _ _ _), HX3.out⟩
    case round =>
      obtain ⟨i, ro, rc, hi, rfl, HB, HS, HXP, hex⟩ := hrel
      have hsz := hex.size
      have hszp := HXP.out.size
      have HEX := Lib.hid hex
      clear hex
      have hrl := peer_load HB.out rfl
      by_cases hlt : i < k + 1
      · have hltI : (i : Int) < 1 + (k : Int) := by omega
        go_upto_region 10 with (first
          | (go_at_call 10
             refine (write41_any (P := fun b => b ≠ pb ∧ b < wr.heap.size) 2 11 (i : Int) (3 * (i : Int)) ro rc i 0 i (lA i) wr (lA_len i) HS.out (lA_chain i (by omega)).valid (lA_chain i (by omega)).row (by decide) (by decide) (by omega) (wrA_check i (by omega))).mono ?_
             rintro e w4 ⟨y, rfl, hy, hls, hex⟩
             rw [wrA i (by omega)] at hy
             have HY := Lib.hid hy
             have hst := stV_new w4 #[.int .i64 0, .int .i64 0, .string ⟨#[]⟩, .int .i64 0, .int .i64 0, .int .i64 0, .int .i64 0, .int .i64 0, .slice none 0 0, .slice none 0 0, .string ⟨#[]⟩, .int .i64 0, .string ⟨#[]⟩] y rfl
             obtain ⟨w5, hw5⟩ : ∃ w5 : World, w5 = w4.alloc (.cells (stV y).cells 37) := ⟨_, rfl⟩
             rw [← hw5] at hst
             have HB5 : Hid (w5.heap[w4.heap.size]? = some (.cells (stV y).cells 37 (0, 0))) := Lib.hid (by rw [hw5]; exact heap_alloc_new w4 _)
             have HE5 : Hid (Ex wr.heap.size none wr w5) := Lib.hid (by rw [hw5]; exact hex.alloc hex.size _)
             have HL5 : Hid (Lies (fun b => b ≠ pb ∧ b < w5.heap.size) w5 y) := Lib.hid ((by rw [hw5]; exact (hls.mono fun b hb hlt => (⟨hb, hlt⟩ : wr.heap.size ≤ b ∧ b < w4.heap.size)).keep fun b hb hlt => (Ex.new w4 _).block b hlt (by simp) : Lies (fun b => wr.heap.size ≤ b ∧ b < w4.heap.size) w5 y).mono fun b hb hlt => ⟨by omega, hlt⟩)
             have hz4 : wr.heap.size ≤ w4.heap.size := hex.size
             have hz5 : w4.heap.size < w5.heap.size := (Array.getElem?_eq_some_iff.1 HB5.out).1
             clear hy hls hex hw5 hrl)
          | fail)
        clear hst
        have hiz : (i : Int) < 6 := by omega
        have HPB5 : Hid (w5.heap[pb]? = some (.cells #[.int .i64 2, .slice ro i rc] 31 (0, 0))) := Lib.hid ((HE5.out.block _ (by omega) (by simp)).trans HB.out)
        have HS5 : Hid (SlAt stRep (fun b => b ≠ pb ∧ b < w5.heap.size) w5 ro (lA i)) := Lib.hid ((HS.out.keep (by decide) fun b hb hlt => HE5.out.block b hlt (by simp)).mono (by decide) fun b hb hlt => ⟨hb.1, hlt⟩)
        have hrl := peer_load HPB5.out rfl
        have hxl := stV_box HB5.out
        go_upto_region 11 with (first
          | (go_at_call 11
             refine (keep41_any (P := fun b => b ≠ pb ∧ b < w5.heap.size) 2 ro rc i (lA i) y (lA (i + 1)) w5 (lA_len i) HS5.out (lA_chain i (by omega)).valid (by decide) HL5.out (by rw [HY.out]; exact checkI_tame (okB_iff'.1 (sA_ok i (by omega))).2.1) (fun l' u c h => putA_new i (by omega) (HY.out ▸ h))).mono ?_
             rintro e w6 ⟨ro2, n2, rc2, rfl, hn2, hsl, hex⟩
             rw [lA_len] at hn2
             subst hn2
             have hst := peer_new w6 2 ro2 (i + 1) rc2
             obtain ⟨w7, hw7⟩ : ∃ w7 : World, w7 = w6.alloc (.cells #[.int .i64 2, .slice ro2 ((i + 1 : Nat) : Nat) rc2] 31) := ⟨_, rfl⟩
             rw [← hw7] at hst
             have HQ7 : Hid (w7.heap[w6.heap.size]? = some (.cells #[.int .i64 2, .slice ro2 (i + 1) rc2] 31 (0, 0))) := Lib.hid (by rw [hw7]; exact heap_alloc_new w6 _)
             have HE7 : Hid (Ex w5.heap.size none w5 w7) := Lib.hid (by rw [hw7]; exact hex.alloc hex.size _)
             have hz6 : w5.heap.size ≤ w6.heap.size := hex.size
             have hz7 : w6.heap.size < w7.heap.size := (Array.getElem?_eq_some_iff.1 HQ7.out).1
             have HS7 : Hid (SlAt stRep (fun b => b ≠ pb ∧ b < w7.heap.size) w7 ro2 (lA (i + 1))) := Lib.hid (by
               have h := (hsl.mono (P' := fun b => b ≠ pb ∧ b < w6.heap.size) (by decide) (fun b hb hlt => by
                 rcases hb with hb | hb
                 · exact ⟨hb.1, hlt⟩
                 · have hb' : w5.heap.size ≤ b := hb
                   exact ⟨by omega, hlt⟩)).keep (w' := w7) (by decide) fun b hb hlt => by rw [hw7]; exact (Ex.new w6 _).block b hlt (by simp)
               exact h.mono (by decide) fun b hb hlt => ⟨hb.1, hlt⟩)
             clear hsl hex hw7 hrl hxl)
          | fail)
        clear hst
        have HB7 : Hid (w7.heap[w4.heap.size]? = some (.cells (stV y).cells 37 (0, 0))) := Lib.hid ((HE7.out.block _ hz5 (by simp)).trans HB5.out)
        have d0 : w7.cell? ⟨w4.heap.size, 0, none⟩ = some (.int .i64 2) := by
          rw [cell_of_row _ _ _ _ _ _ HB7.out, stV_cells]
          show some (Value.int .i64 y.1.author) = _
          rw [HY.out]; rfl
        have d1 : w7.cell? ⟨w4.heap.size, 1, none⟩ = some (.int .i64 (i : Int)) := by
          rw [cell_of_row _ _ _ _ _ _ HB7.out, stV_cells]
          show some (Value.int .i64 y.1.number) = _
          rw [HY.out]; rfl
        have hxl := stV_box HB7.out
        have HTM : Hid (Tame y.1) := Lib.hid (by rw [HY.out]; exact checkI_tame (okB_iff'.1 (sA_ok i (by omega))).2.1)
        have HSB : Hid (sealedB y.1 = true) := Lib.hid (by rw [HY.out]; exact (okB_iff'.1 (sA_ok i (by omega))).2.2)
        go_upto_region 13 with (first
          | (go_at_call 12
             refine (asB (sealed03_v (P := fun b => b ≠ pb ∧ b < w5.heap.size) y w7 (HL5.out.keep fun b hb hlt => HE7.out.block b hlt (by simp)) HTM.out) HSB.out).mono ?_
             rintro e w8 ⟨rfl, hex⟩
             have HE8 : Hid (Ex w7.heap.size none w7 w8) := Lib.hid hex
             clear hex d0 d1 hxl)
          | fail)
        have hz8 := HE8.out.size
        have HQ8 : Hid (w8.heap[w6.heap.size]? = some (.cells #[.int .i64 2, .slice ro2 (i + 1) rc2] 31 (0, 0))) := Lib.hid ((HE8.out.block _ hz7 (by simp)).trans HQ7.out)
        have HP8 : Hid (w8.heap[pb]? = some (.cells #[.int .i64 2, .slice ro i rc] 31 (0, 0))) := Lib.hid ((HE8.out.block _ (by omega) (by simp)).trans ((HE7.out.block _ (by omega) (by simp)).trans HPB5.out))
        have hrl := peer_load HQ8.out rfl
        have hst := peer_store HP8.out rfl 2 ro2 (i + 1) rc2
        obtain ⟨w9, hw9⟩ : ∃ w9 : World, w9 = w8.setRow pb #[.int .i64 2, .slice ro2 (i + 1) rc2] := ⟨_, rfl⟩
        rw [← hw9] at hst
        have HP9 : Hid (w9.heap[pb]? = some (.cells #[.int .i64 2, .slice ro2 (i + 1) rc2] 31 (0, 0))) := Lib.hid (by rw [hw9]; exact setRow_heap _ _ _ _ _ _ HP8.out)
        have HS9 : Hid (SlAt stRep (fun b => b ≠ pb ∧ b < w9.heap.size) w9 ro2 (lA (i + 1))) := Lib.hid (by
          have h := HS7.out.keep (w' := w9) (by decide) fun b hb hlt => by rw [hw9]; exact (setRow_other _ _ _ _ hb.1).trans (HE8.out.block b hlt (by simp))
          exact h.mono (by decide) fun b hb hlt => ⟨hb.1, hlt⟩)
        have HXR : Hid (Ex wr.heap.size none wr w8) := Lib.hid ((HE5.out.trans HE7.out (by omega) (by simp)).trans HE8.out (by omega) (by simp))
        have HX9 : Hid (Ex w3.heap.size (some pb) w3 w9) := Lib.hid (by rw [hw9]; exact (HXP.out.trans HXR.out hszp (by simp)).setRow _ _ (.inl rfl))
        have HXF : Hid (Ex w.heap.size none w w9) := Lib.hid (by rw [hw9]; exact (HEX.out.trans HXR.out hsz (by simp)).setRow _ _ (.inr hpb1))
        clear hw9
        go_wp2
        go_roundw
        case rel => exact ⟨i + 1, ro2, rc2, by omega, by go_num, HP9, HS9, HX9, HXF.out⟩
        case measure => simp [intOf] <;> omega
      · obtain rfl : i = k + 1 := by omega
        have hltI : ¬ ((k + 1 : Nat) : Int) < 1 + (k : Int) := by omega
        have hltJ : ¬ ((k : Int) + 1) < 1 + (k : Int) := by omega
        obtain ⟨c, hc⟩ : ∃ c : Nat, b % (1 + (k : Int)) = (c : Int) := ⟨(b % (1 + (k : Int))).toNat, (Int.toNat_of_nonneg (Int.emod_nonneg _ (by omega))).symm⟩
        have hck : (c : Int) < 1 + (k : Int) := by rw [← hc]; exact Int.emod_lt_of_pos _ (by omega)
        obtain ⟨kk, hkk⟩ : ∃ kk : Nat, kk = 1 + c := ⟨_, rfl⟩
        have hmod : wrap64 (1 + b % (1 + (k : Int))) = (kk : Int) := by
          rw [hc, hkk]
          have : wrap64 (1 + (c : Int)) = 1 + (c : Int) := by unfold wrap64; omega
          rw [this]; omega
        have hkk1 : 1 ≤ kk := by omega
        have hkk2 : kk ≤ k + 1 := by omega
        obtain ⟨m, hm⟩ : ∃ m, m = k + 1 - kk := ⟨_, rfl⟩
        have hmlt : m < k + 1 := by omega
        have HM : Hid (m = k + 1 - kk) := Lib.hid hm
        clear hm hkk hc hck
        have HC := lA_chain (k + 1) (by omega)
        have HCH := Lib.hid HC
        clear HC
        have d1 : wr.cell? ⟨pb, 1, none⟩ = some (.slice ro (k + 1) rc) := by rw [cell_of_row _ _ _ _ _ _ HB.out]; rfl
        go_upto_region 16 with (first
          | (go_at_call 13
             refine (counted04_any (P := fun b => b ≠ pb ∧ b < wr.heap.size) (.slice ro (k + 1) rc) (lA (k + 1)) 2 wr ⟨ro, rc, by rw [lA_len], HS.out⟩ (by rw [lA_len]; omega) (fun s hs => checkI_tame (okB_iff'.1 (HCH.out.ok s hs)).2.1)).mono ?_
             rintro e w4 ⟨rc1, rcc1, he, hown, hex⟩
             rw [HCH.out.counted, lA_len] at he
             subst he
             have HE4 : Hid (Ex wr.heap.size none wr w4) := Lib.hid hex
             clear hown hex d1)
          | fail)
        rw [hmod]
        clear hmod
        have hz4 := HE4.out.size
        have HP4 : Hid (w4.heap[pb]? = some (.cells #[.int .i64 2, .slice ro (k + 1) rc] 31 (0, 0))) := Lib.hid ((HE4.out.block _ (by omega) (by simp)).trans HB.out)
        have HS4 : Hid (SlAt stRep (fun b => b ≠ pb ∧ b < w4.heap.size) w4 ro (lA (k + 1))) := Lib.hid ((HS.out.keep (by decide) fun b hb hlt => HE4.out.block b hlt (by simp)).mono (by decide) fun b hb hlt => ⟨hb.1, hlt⟩)
        have hrl := peer_load HP4.out rfl
        go_upto_region 17 with (first
          | (go_at_call 10
             refine (write41_any (P := fun b => b ≠ pb ∧ b < w4.heap.size) 2 11 77 0 ro rc (k + 1) kk m (lA (k + 1)) w4 (lA_len _) HS4.out HCH.out.valid HCH.out.row (by decide) (by omega) HM.out (wrX_check (k + 1) m (by omega) (by omega))).mono ?_
             rintro e w5 ⟨y, rfl, hy, hls, hex⟩
             rw [wrX (k + 1) m (by omega) (by omega)] at hy
             have HY := Lib.hid hy
             have hst := stV_new w5 #[.int .i64 0, .int .i64 0, .string ⟨#[]⟩, .int .i64 0, .int .i64 0, .int .i64 0, .int .i64 0, .int .i64 0, .slice none 0 0, .slice none 0 0, .string ⟨#[]⟩, .int .i64 0, .string ⟨#[]⟩] y rfl
             obtain ⟨w6, hw6⟩ : ∃ w6 : World, w6 = w5.alloc (.cells (stV y).cells 37) := ⟨_, rfl⟩
             rw [← hw6] at hst
             have HB6 : Hid (w6.heap[w5.heap.size]? = some (.cells (stV y).cells 37 (0, 0))) := Lib.hid (by rw [hw6]; exact heap_alloc_new w5 _)
             have HE6 : Hid (Ex w4.heap.size none w4 w6) := Lib.hid (by rw [hw6]; exact hex.alloc hex.size _)
             have HL6 : Hid (Lies (fun b => b ≠ pb ∧ b < w6.heap.size) w6 y) := Lib.hid ((by rw [hw6]; exact (hls.mono fun b hb hlt => (⟨hb, hlt⟩ : w4.heap.size ≤ b ∧ b < w5.heap.size)).keep fun b hb hlt => (Ex.new w5 _).block b hlt (by simp) : Lies (fun b => w4.heap.size ≤ b ∧ b < w5.heap.size) w6 y).mono fun b hb hlt => ⟨by omega, hlt⟩)
             have hz5 : w4.heap.size ≤ w5.heap.size := hex.size
             have hz6 : w5.heap.size < w6.heap.size := (Array.getElem?_eq_some_iff.1 HB6.out).1
             clear hy hls hex hw6 hrl)
          | fail)
        clear hst
        have HP6 : Hid (w6.heap[pb]? = some (.cells #[.int .i64 2, .slice ro (k + 1) rc] 31 (0, 0))) := Lib.hid ((HE6.out.block _ (by omega) (by simp)).trans HP4.out)
        have HS6 : Hid (SlAt stRep (fun b => b ≠ pb ∧ b < w6.heap.size) w6 ro (lA (k + 1))) := Lib.hid ((HS4.out.keep (by decide) fun b hb hlt => HE6.out.block b hlt (by simp)).mono (by decide) fun b hb hlt => ⟨hb.1, hlt⟩)
        have hrl := peer_load HP6.out rfl
        go_upto_region 18 with (first
          | (go_at_call 14
             refine (base41_any (P := fun b => b ≠ pb ∧ b < w6.heap.size) 2 ro rc (k + 1) kk (lA (k + 1)) w6 (lA_len _) HS6.out HCH.out.valid HCH.out.row (by decide) (by omega)).mono ?_
             rintro e w7 ⟨rb, m', hm', rfl, hsl, hex⟩
             rw [← HM.out] at hm'
             subst hm'
             have HE7 : Hid (Ex w6.heap.size none w6 w7) := Lib.hid hex
             have HSB7 : Hid (SlAt stRep (fun b => w6.heap.size ≤ b ∧ b < w7.heap.size) w7 rb ((lA (k + 1)).take m')) := Lib.hid (hsl.mono (by decide) fun b hb hlt => ⟨hb, hlt⟩)
             clear hsl hex hrl)
          | fail)
        have hz7 := HE7.out.size
        have HP7 : Hid (w7.heap[pb]? = some (.cells #[.int .i64 2, .slice ro (k + 1) rc] 31 (0, 0))) := Lib.hid ((HE7.out.block _ (by omega) (by simp)).trans HP6.out)
        have HS7 : Hid (SlAt stRep (fun b => b ≠ pb ∧ b < w7.heap.size) w7 ro (lA (k + 1))) := Lib.hid ((HS6.out.keep (by decide) fun b hb hlt => HE7.out.block b hlt (by simp)).mono (by decide) fun b hb hlt => ⟨hb.1, hlt⟩)
        have HL7 : Hid (Lies (fun b => b ≠ pb ∧ b < w7.heap.size) w7 y) := Lib.hid ((HL6.out.keep fun b hb hlt => HE7.out.block b hlt (by simp)).mono fun b hb hlt => ⟨hb.1, hlt⟩)
        have HB7 : Hid (w7.heap[w5.heap.size]? = some (.cells (stV y).cells 37 (0, 0))) := Lib.hid ((HE7.out.block _ hz6 (by simp)).trans HB6.out)
        have hrl := peer_load HP7.out rfl
        have hxl := stV_box HB7.out
        have HTM : Hid (Tame y.1) := Lib.hid (by rw [HY.out]; exact checkI_tame (okB_iff'.1 (sX_ok m' (by omega))).2.1)
        go_upto_region 19 with (first
          | (go_at_call 11
             refine (keep41_q (P := fun b => b ≠ pb ∧ b < w7.heap.size) (fun q => ∃ p', ForkL 2 (lA (k + 1)) (sX m') m' p' q) 2 ro rc (k + 1) (lA (k + 1)) y w7 (lA_len _) HS7.out HCH.out.valid (by decide) HL7.out HTM.out (fun l' u c h => by have h2 := putX_new (k + 1) m' (by omega) (by omega) (HY.out ▸ h); exact ⟨h2.2, h2.1⟩)).mono ?_
             rintro e w8 ⟨ro2, n2, rc2, rfl, ⟨q, hn2, ⟨p', hq⟩, hsl⟩, hex⟩
             have HQ := Lib.hid hq
             have HN2 := Lib.hid hn2
             have hst := peer_new w8 2 ro2 n2 rc2
             obtain ⟨w9, hw9⟩ : ∃ w9 : World, w9 = w8.alloc (.cells #[.int .i64 2, .slice ro2 n2 rc2] 31) := ⟨_, rfl⟩
             rw [← hw9] at hst
             have HQ9 : Hid (w9.heap[w8.heap.size]? = some (.cells #[.int .i64 2, .slice ro2 n2 rc2] 31 (0, 0))) := Lib.hid (by rw [hw9]; exact heap_alloc_new w8 _)
             have HE9 : Hid (Ex w7.heap.size none w7 w9) := Lib.hid (by rw [hw9]; exact hex.alloc hex.size _)
             have hz8 : w7.heap.size ≤ w8.heap.size := hex.size
             have hz9 : w8.heap.size < w9.heap.size := (Array.getElem?_eq_some_iff.1 HQ9.out).1
             have HS9 : Hid (SlAt stRep (fun b => b < w8.heap.size) w9 ro2 q) := Lib.hid ((hsl.mono (P' := fun b => b < w8.heap.size) (by decide) (fun b _ hlt => hlt)).keep (by decide) fun b hb hlt => by rw [hw9]; exact (Ex.new w8 _).block b hlt (by simp))
             clear hsl hex hw9 hrl hxl hq hn2)
          | fail)
        clear hst
        have HX9 : Hid (Ex w.heap.size none w w9) := Lib.hid (((((HEX.out.trans HE4.out hsz (by simp)).trans HE6.out (by omega) (by simp)).trans HE7.out (by omega) (by simp))).trans HE9.out (by omega) (by simp))
        have HB9 : Hid (w9.heap[w5.heap.size]? = some (.cells (stV y).cells 37 (0, 0))) := Lib.hid ((HE9.out.block _ (by omega) (by simp)).trans HB7.out)
        have g1 : ∀ p : ExW w9, p.w'.cell? ⟨w5.heap.size, 1, none⟩ = some (.int .i64 (m' : Int)) := fun p => by
          rw [cell_of_row _ _ _ _ _ _ ((p.ex.block _ (by omega) (by simp)).trans HB9.out), stV_cells]
          show some (Value.int .i64 y.1.number) = _
          rw [HY.out]; rfl
        have g3 : ∀ p : ExW w9, (rowLoad 37 ⟨w5.heap.size, 0, none⟩).run Tryz.prog p.w' = .ok (stV y) p.w' := fun p => stV_box ((p.ex.block _ (by omega) (by simp)).trans HB9.out)
        have hmI : (1 + (k : Int)) - (kk : Int) = (m' : Int) := by have := HM.out; omega
        have hw1 : IntKind.i64.wrap ((1 + (k : Int)) - (kk : Int)) = (m' : Int) := by rw [IntWalk.i64_in _ (by omega)]; exact hmI
        have hlen : ((k : Int) + 1) = 1 + (k : Int) := by omega
        have hXok := sX_ok m' (by omega)
        have HXK := Lib.hid hXok
        clear hXok
        have HQO : Hid (∀ s ∈ q, okB 2 s = true) := Lib.hid (HQ.out.ok HCH.out HXK.out)
        have hml : m' < (lA (k + 1)).length := by rw [lA_len]; omega
        have HQL : Hid (q.length = k + 2) := Lib.hid ((HQ.out.len hml).trans (by rw [lA_len]))
        have HQLEN : Hid (q.length ≤ 100000) := Lib.hid (by rw [HQL.out]; omega)
        have HTQ : Hid (TameL q) := Lib.hid (fun s hs => checkI_tame (okB_iff'.1 (HQO.out s hs)).2.1)
        have HLQ : Hid (LightL 1000000 q) := Lib.hid (fun s hs => by have h := checkI_tame (okB_iff'.1 (HQO.out s hs)).2.1; have h1 := h.list; have h2 := h.pins; omega)
        have HAQ : Hid (q.filter (fun s => decide (s.author = 2)) = q) := Lib.hid (List.filter_eq_self.2 fun s hs => decide_eq_true (okB_iff'.1 (HQO.out s hs)).1)
        have HOW : Hid (ownI 2 q = q) := Lib.hid (HQ.out.own HCH.out HXK.out)
        have HNUM : Hid (∀ (i : Nat) (s : St), q[i]? = some s → s.number = if i ≤ m' then (i : Int) else ((i - 1 : Nat) : Int)) := Lib.hid (HQ.out.num HCH.out rfl hml)
        obtain ⟨xq, hxq⟩ : ∃ xq, q[m']? = some xq := ⟨_, List.getElem?_eq_getElem (by rw [HQL.out]; omega)⟩
        obtain ⟨yq, hyq⟩ : ∃ yq, q[m' + 1]? = some yq := ⟨_, List.getElem?_eq_getElem (by rw [HQL.out]; omega)⟩
        have HXN : Hid (xq.number = (m' : Int)) := Lib.hid (by rw [HNUM.out _ _ hxq, if_pos (Nat.le_refl _)])
        have HNE : Hid (xq.number = yq.number) := Lib.hid (by rw [HXN.out, HNUM.out _ _ hyq, if_neg (by omega)]; simp)
        have HXQ : Hid ((ownI 2 q)[m']? = some xq) := Lib.hid (by rw [HOW.out]; exact hxq)
        have HYQ : Hid ((ownI 2 q)[m' + 1]? = some yq) := Lib.hid (by rw [HOW.out]; exact hyq)
        have HLT : Hid (∀ (j : Nat) (s t : St), j < m' → (ownI 2 q)[j]? = some s → (ownI 2 q)[j + 1]? = some t → s.number ≠ t.number) := Lib.hid (fun j s t hj hs ht => by
          rw [HOW.out] at hs ht
          rw [HNUM.out _ _ hs, HNUM.out _ _ ht, if_pos (by omega), if_pos (by omega)]
          omega)
        have HCQ : Hid ((countedI 2 q).length = m') := Lib.hid (HQ.out.counted HCH.out HXK.out rfl hml)
        have HVQ : Hid (validB q = true) := Lib.hid (HQ.out.valid HCH.out HXK.out hml)
        clear hxq hyq hml
        by_cases hm0 : 0 < m'
        · obtain ⟨j, hj⟩ : ∃ j, j = m' - 1 := ⟨_, rfl⟩
          have hmd : decide (0 < m') = true := decide_eq_true hm0
          have hm0I : (0 : Int) < (m' : Int) := by omega
          have hw2 : IntKind.i64.wrap ((m' : Int) - 1) = (j : Int) := by rw [IntWalk.i64_in _ (by omega)]; omega
          have hjm : (j : Int) < (m' : Int) := by omega
          have hjl : j < ((lA (k + 1)).take m').length := by rw [List.length_take, lA_len]; omega
          obtain ⟨bb, off, z, hao, hPb, hbl, HZs, hls, HLD⟩ := stv_get HSB7.out j hjl
          subst hao
          have HZ : Hid (z.1 = sA j) := Lib.hid (by
            have h := HZs.out
            rw [List.getElem?_take_of_lt (by omega), lA_at (by omega)] at h
            exact (Option.some.inj h).symm)
          have g2 : ∀ p : ExW w9, (rowLoad 37 ⟨bb, off + j * 13, none⟩).run Tryz.prog p.w' = .ok (stV z) p.w' := fun p => HLD.out p.w' ((p.ex.block _ (by omega) (by simp)).trans (HE9.out.block _ hbl (by simp)))
          have HFO : Hid (∀ p : ExW w9, Calls Tryz.prog 15 #[stV z, stV y] p.w' fun e w' => e = .returned (.bool true) ∧ Ex p.w'.heap.size none p.w' w') := Lib.hid (fun p => by
            have hl : Lies (fun b => w6.heap.size ≤ b ∧ b < w7.heap.size) p.w' z := (hls.keep fun b _ hb => HE9.out.block b hb (by simp)).keep fun b _ hb => p.ex.block b hb (by simp)
            have hf := folX (k + 1) j (by omega) (by omega)
            have hm1 : j + 1 = m' := by omega
            rw [hm1, ← HZ.out, ← HY.out] at hf
            obtain ⟨zs, ⟨zlo, zln, zlc⟩, ⟨zpo, zpn, zpc⟩⟩ := z
            obtain ⟨ys, ⟨ylo, yln, ylc⟩, ⟨ypo, ypn, ypc⟩⟩ := y
            have h := follows04_any zs ys zlo zpo ylo ypo zln zlc zpn zpc yln ylc ypn ypc p.w' hl (by rw [show zs = sA j from HZ.out]; exact checkI_tame (okB_iff'.1 (sA_ok j (by omega))).2.1)
            rw [show followsB zs ys = true from hf] at h
            exact h)
          clear hls hj
          refine wp_region_quiet_ex (by kernel_rfl) (by kernel_rfl) ?_
          repeat (go_big_quiet_step (first | (go_at_call 15; refine calls_ex_of (HFO.out _))))
          refine wpQuiet_nil ?_
          intro _ hw'
          obtain ⟨p9, hw''⟩ := hw'
          subst hw''
          clear g1 g2 g3
          obtain ⟨wa, hwa⟩ : ∃ wa : World, wa = p9.w' := ⟨_, rfl⟩
          have HEa : Hid (Ex w9.heap.size none w9 wa) := Lib.hid (by rw [hwa]; exact p9.ex)
          rw [← hwa]
          clear hwa
          have hza := HEa.out.size
          have HQa : Hid (wa.heap[w8.heap.size]? = some (.cells #[.int .i64 2, .slice ro2 n2 rc2] 31 (0, 0))) := Lib.hid ((HEa.out.block _ hz9 (by simp)).trans HQ9.out)
          have HSa : Hid (SlAt stRep (fun b => b < w8.heap.size) wa ro2 q) := Lib.hid (HS9.out.keep (by decide) fun b _ hlt => HEa.out.block b hlt (by simp))
          have d1 : wa.cell? ⟨w8.heap.size, 1, none⟩ = some (.slice ro2 n2 rc2) := by rw [cell_of_row _ _ _ _ _ _ HQa.out]; rfl
          go_upto_region 22 with (first
            | (go_at_call 16
               refine (fork04_at (P := fun _ => True) (.slice ro5 n2 rc5) q 2 wb HSB.out HQLEN.out HTQ.out m' xq yq HXQ.out HYQ.out HNE.out HLT.out).mono ?_
               rintro e wc ⟨⟨X, Y, rfl, hX, _⟩, hex⟩
               have HXX := Lib.hid hX
               have hst : (rowStore 51 ⟨wc.heap.size, 0, none⟩ (forkV X Y)).run Tryz.prog (wc.alloc (.cells #[.int .i64 0, .int .i64 0, .string ⟨#[]⟩, .int .i64 0, .int .i64 0, .int .i64 0, .int .i64 0, .int .i64 0, .slice none 0 0, .slice none 0 0, .string ⟨#[]⟩, .int .i64 0, .string ⟨#[]⟩, .int .i64 0, .int .i64 0, .string ⟨#[]⟩, .int .i64 0, .int .i64 0, .int .i64 0, .int .i64 0, .int .i64 0, .slice none 0 0, .slice none 0 0, .string ⟨#[]⟩, .int .i64 0, .string ⟨#[]⟩] 51)) = .ok () ((wc.alloc (.cells #[.int .i64 0, .int .i64 0, .string ⟨#[]⟩, .int .i64 0, .int .i64 0, .int .i64 0, .int .i64 0, .int .i64 0, .slice none 0 0, .slice none 0 0, .string ⟨#[]⟩, .int .i64 0, .string ⟨#[]⟩, .int .i64 0, .int .i64 0, .string ⟨#[]⟩, .int .i64 0, .int .i64 0, .int .i64 0, .int .i64 0, .int .i64 0, .slice none 0 0, .slice none 0 0, .string ⟨#[]⟩, .int .i64 0, .string ⟨#[]⟩] 51)).setRow wc.heap.size (forkV X Y).cells) := run_rowStore (P := Tryz.prog) _ wc.heap.size 51 51 #[.int .i64 0, .int .i64 0, .string ⟨#[]⟩, .int .i64 0, .int .i64 0, .int .i64 0, .int .i64 0, .int .i64 0, .slice none 0 0, .slice none 0 0, .string ⟨#[]⟩, .int .i64 0, .string ⟨#[]⟩, .int .i64 0, .int .i64 0, .string ⟨#[]⟩, .int .i64 0, .int .i64 0, .int .i64 0, .int .i64 0, .int .i64 0, .slice none 0 0, .slice none 0 0, .string ⟨#[]⟩, .int .i64 0, .string ⟨#[]⟩] (forkV X Y).cells (heap_alloc_new wc _) Tryz.sizeFork rfl (forkV_one _ _)
               obtain ⟨wd, hwd⟩ : ∃ wd : World, wd = (wc.alloc (.cells #[.int .i64 0, .int .i64 0, .string ⟨#[]⟩, .int .i64 0, .int .i64 0, .int .i64 0, .int .i64 0, .int .i64 0, .slice none 0 0, .slice none 0 0, .string ⟨#[]⟩, .int .i64 0, .string ⟨#[]⟩, .int .i64 0, .int .i64 0, .string ⟨#[]⟩, .int .i64 0, .int .i64 0, .int .i64 0, .int .i64 0, .int .i64 0, .slice none 0 0, .slice none 0 0, .string ⟨#[]⟩, .int .i64 0, .string ⟨#[]⟩] 51)).setRow wc.heap.size (forkV X Y).cells := ⟨_, rfl⟩
               rw [← hwd] at hst
               have HBd : Hid (wd.heap[wc.heap.size]? = some (.cells (forkV X Y).cells 51 (0, 0))) := Lib.hid (by rw [hwd]; exact setRow_heap _ _ _ _ _ _ (heap_alloc_new wc _))
               have HEd : Hid (Ex wb.heap.size none wb wd) := Lib.hid (by rw [hwd]; exact (hex.alloc hex.size _).setRow _ _ (.inr hex.size))
               clear hX hex hwd)
            | (go_at_call 17
               refine (of05n (P := fun b => b < w8.heap.size) ro2 n2 rc2 q 2 wa HN2.out HSa.out HQLEN.out HLQ.out HAQ.out).mono ?_
               rintro e wb ⟨ro5, rc5, rfl, hsl, hex⟩
               have HSB : Hid (Sl stRep (fun _ => True) wb (.slice ro5 n2 rc5) q) := Lib.hid hsl
               have HEb : Hid (Ex wa.heap.size none wa wb) := Lib.hid hex
               clear hsl hex d1)
            | fail)
          clear hst
          have hzb : wa.heap.size ≤ wb.heap.size := HEb.out.size
          have hzd : wb.heap.size ≤ wd.heap.size := HEd.out.size
          have HEad : Hid (Ex wa.heap.size none wa wd) := Lib.hid (HEb.out.trans HEd.out hzb (by simp))
          have HXd : Hid (Ex w.heap.size none w wd) := Lib.hid ((HX9.out.trans HEa.out HX9.out.size (by simp)).trans HEad.out (by have := HX9.out.size; omega) (by simp))
          have HQd : Hid (wd.heap[w8.heap.size]? = some (.cells #[.int .i64 2, .slice ro2 n2 rc2] 31 (0, 0))) := Lib.hid ((HEad.out.block _ (by omega) (by simp)).trans HQa.out)
          have HSd : Hid (Sl stRep (fun b => b < w8.heap.size) wd (.slice ro2 n2 rc2) q) := Lib.hid ⟨ro2, rc2, by rw [HN2.out], HSa.out.keep (by decide) fun b _ hlt => HEad.out.block b hlt (by simp)⟩
          have d0 : wd.cell? ⟨wc.heap.size, 1, none⟩ = some (.int .i64 (m' : Int)) := by
            rw [cell_of_row _ _ _ _ _ _ HBd.out, forkV_cells]
            show some (Value.int .i64 X.1.number) = _
            rw [HXX.out, HXN.out]
          have d1 : wd.cell? ⟨w8.heap.size, 1, none⟩ = some (.slice ro2 n2 rc2) := by rw [cell_of_row _ _ _ _ _ _ HQd.out]; rfl
          go_wp2_with (first
            | (go_at_call 7
               refine (awake41_any wf).mono ?_
               rintro e wg ⟨rfl, hex⟩
               have HEg : Hid (Ex wf.heap.size none wf wg) := Lib.hid hex
               clear hex)
            | (go_at_call 18
               refine (valid08_yes (P := fun b => b < w8.heap.size) 2 (.slice ro2 n2 rc2) q we (by decide) HSe.out HVQ.out).mono ?_
               rintro e wf ⟨rfl, hex⟩
               have HEf : Hid (Ex wd.heap.size none wd wf) := Lib.hid (HEe.out.trans hex HEe.out.size (by simp))
               clear hex hrl)
            | (go_at_call 13
               refine (counted04n (.slice ro2 n2 rc2) q 2 m' wd HSd.out HQLEN.out HTQ.out HCQ.out).mono ?_
               rintro e we ⟨ro6, rc6, rfl, hex⟩
               have HEe : Hid (Ex wd.heap.size none wd we) := Lib.hid hex
               have HSe : Hid (Sl stRep (fun b => b < w8.heap.size) we (.slice ro2 n2 rc2) q) := Lib.hid (HSd.out.keep (by decide) fun b _ hlt => HEe.out.block b hlt (by simp))
               have HQe : Hid (we.heap[w8.heap.size]? = some (.cells #[.int .i64 2, .slice ro2 n2 rc2] 31 (0, 0))) := Lib.hid ((HEe.out.block _ (by omega) (by simp)).trans HQd.out)
               have hrl := peer_load HQe.out rfl
               clear hex d0 d1)
            | fail)
          go_ret
          exact ⟨rfl, ((HXd.out.trans HEf.out HXd.out.size (by simp)).trans HEg.out (by have := HXd.out.size; have := HEf.out.size; omega) (by simp)).below⟩
        · have hmd : decide (0 < m') = false := decide_eq_false hm0
          have hm0I : ¬ (0 : Int) < (m' : Int) := by omega
          refine wp_region_quiet_ex (by kernel_rfl) (by kernel_rfl) ?_
          repeat (go_big_quiet_step (fail))
          refine wpQuiet_nil ?_
          intro _ hw'
          obtain ⟨p9, hw''⟩ := hw'
          subst hw''
          clear g1 g3
          obtain ⟨wa, hwa⟩ : ∃ wa : World, wa = p9.w' := ⟨_, rfl⟩
          have HEa : Hid (Ex w9.heap.size none w9 wa) := Lib.hid (by rw [hwa]; exact p9.ex)
          rw [← hwa]
          clear hwa
          have hza := HEa.out.size
          have HQa : Hid (wa.heap[w8.heap.size]? = some (.cells #[.int .i64 2, .slice ro2 n2 rc2] 31 (0, 0))) := Lib.hid ((HEa.out.block _ hz9 (by simp)).trans HQ9.out)
          have HSa : Hid (SlAt stRep (fun b => b < w8.heap.size) wa ro2 q) := Lib.hid (HS9.out.keep (by decide) fun b _ hlt => HEa.out.block b hlt (by simp))
          have d1 : wa.cell? ⟨w8.heap.size, 1, none⟩ = some (.slice ro2 n2 rc2) := by rw [cell_of_row _ _ _ _ _ _ HQa.out]; rfl
          go_upto_region 22 with (first
            | (go_at_call 16
               refine (fork04_at (P := fun _ => True) (.slice ro5 n2 rc5) q 2 wb HSB.out HQLEN.out HTQ.out m' xq yq HXQ.out HYQ.out HNE.out HLT.out).mono ?_
               rintro e wc ⟨⟨X, Y, rfl, hX, _⟩, hex⟩
               have HXX := Lib.hid hX
               have hst : (rowStore 51 ⟨wc.heap.size, 0, none⟩ (forkV X Y)).run Tryz.prog (wc.alloc (.cells #[.int .i64 0, .int .i64 0, .string ⟨#[]⟩, .int .i64 0, .int .i64 0, .int .i64 0, .int .i64 0, .int .i64 0, .slice none 0 0, .slice none 0 0, .string ⟨#[]⟩, .int .i64 0, .string ⟨#[]⟩, .int .i64 0, .int .i64 0, .string ⟨#[]⟩, .int .i64 0, .int .i64 0, .int .i64 0, .int .i64 0, .int .i64 0, .slice none 0 0, .slice none 0 0, .string ⟨#[]⟩, .int .i64 0, .string ⟨#[]⟩] 51)) = .ok () ((wc.alloc (.cells #[.int .i64 0, .int .i64 0, .string ⟨#[]⟩, .int .i64 0, .int .i64 0, .int .i64 0, .int .i64 0, .int .i64 0, .slice none 0 0, .slice none 0 0, .string ⟨#[]⟩, .int .i64 0, .string ⟨#[]⟩, .int .i64 0, .int .i64 0, .string ⟨#[]⟩, .int .i64 0, .int .i64 0, .int .i64 0, .int .i64 0, .int .i64 0, .slice none 0 0, .slice none 0 0, .string ⟨#[]⟩, .int .i64 0, .string ⟨#[]⟩] 51)).setRow wc.heap.size (forkV X Y).cells) := run_rowStore (P := Tryz.prog) _ wc.heap.size 51 51 #[.int .i64 0, .int .i64 0, .string ⟨#[]⟩, .int .i64 0, .int .i64 0, .int .i64 0, .int .i64 0, .int .i64 0, .slice none 0 0, .slice none 0 0, .string ⟨#[]⟩, .int .i64 0, .string ⟨#[]⟩, .int .i64 0, .int .i64 0, .string ⟨#[]⟩, .int .i64 0, .int .i64 0, .int .i64 0, .int .i64 0, .int .i64 0, .slice none 0 0, .slice none 0 0, .string ⟨#[]⟩, .int .i64 0, .string ⟨#[]⟩] (forkV X Y).cells (heap_alloc_new wc _) Tryz.sizeFork rfl (forkV_one _ _)
               obtain ⟨wd, hwd⟩ : ∃ wd : World, wd = (wc.alloc (.cells #[.int .i64 0, .int .i64 0, .string ⟨#[]⟩, .int .i64 0, .int .i64 0, .int .i64 0, .int .i64 0, .int .i64 0, .slice none 0 0, .slice none 0 0, .string ⟨#[]⟩, .int .i64 0, .string ⟨#[]⟩, .int .i64 0, .int .i64 0, .string ⟨#[]⟩, .int .i64 0, .int .i64 0, .int .i64 0, .int .i64 0, .int .i64 0, .slice none 0 0, .slice none 0 0, .string ⟨#[]⟩, .int .i64 0, .string ⟨#[]⟩] 51)).setRow wc.heap.size (forkV X Y).cells := ⟨_, rfl⟩
               rw [← hwd] at hst
               have HBd : Hid (wd.heap[wc.heap.size]? = some (.cells (forkV X Y).cells 51 (0, 0))) := Lib.hid (by rw [hwd]; exact setRow_heap _ _ _ _ _ _ (heap_alloc_new wc _))
               have HEd : Hid (Ex wb.heap.size none wb wd) := Lib.hid (by rw [hwd]; exact (hex.alloc hex.size _).setRow _ _ (.inr hex.size))
               clear hX hex hwd)
            | (go_at_call 17
               refine (of05n (P := fun b => b < w8.heap.size) ro2 n2 rc2 q 2 wa HN2.out HSa.out HQLEN.out HLQ.out HAQ.out).mono ?_
               rintro e wb ⟨ro5, rc5, rfl, hsl, hex⟩
               have HSB : Hid (Sl stRep (fun _ => True) wb (.slice ro5 n2 rc5) q) := Lib.hid hsl
               have HEb : Hid (Ex wa.heap.size none wa wb) := Lib.hid hex
               clear hsl hex d1)
            | fail)
          clear hst
          have hzb : wa.heap.size ≤ wb.heap.size := HEb.out.size
          have hzd : wb.heap.size ≤ wd.heap.size := HEd.out.size
          have HEad : Hid (Ex wa.heap.size none wa wd) := Lib.hid (HEb.out.trans HEd.out hzb (by simp))
          have HXd : Hid (Ex w.heap.size none w wd) := Lib.hid ((HX9.out.trans HEa.out HX9.out.size (by simp)).trans HEad.out (by have := HX9.out.size; omega) (by simp))
          have HQd : Hid (wd.heap[w8.heap.size]? = some (.cells #[.int .i64 2, .slice ro2 n2 rc2] 31 (0, 0))) := Lib.hid ((HEad.out.block _ (by omega) (by simp)).trans HQa.out)
          have HSd : Hid (Sl stRep (fun b => b < w8.heap.size) wd (.slice ro2 n2 rc2) q) := Lib.hid ⟨ro2, rc2, by rw [HN2.out], HSa.out.keep (by decide) fun b _ hlt => HEad.out.block b hlt (by simp)⟩
          have d0 : wd.cell? ⟨wc.heap.size, 1, none⟩ = some (.int .i64 (m' : Int)) := by
            rw [cell_of_row _ _ _ _ _ _ HBd.out, forkV_cells]
            show some (Value.int .i64 X.1.number) = _
            rw [HXX.out, HXN.out]
          have d1 : wd.cell? ⟨w8.heap.size, 1, none⟩ = some (.slice ro2 n2 rc2) := by rw [cell_of_row _ _ _ _ _ _ HQd.out]; rfl
          go_wp2_with (first
            | (go_at_call 7
               refine (awake41_any wf).mono ?_
               rintro e wg ⟨rfl, hex⟩
               have HEg : Hid (Ex wf.heap.size none wf wg) := Lib.hid hex
               clear hex)
            | (go_at_call 18
               refine (valid08_yes (P := fun b => b < w8.heap.size) 2 (.slice ro2 n2 rc2) q we (by decide) HSe.out HVQ.out).mono ?_
               rintro e wf ⟨rfl, hex⟩
               have HEf : Hid (Ex wd.heap.size none wd wf) := Lib.hid (HEe.out.trans hex HEe.out.size (by simp))
               clear hex hrl)
            | (go_at_call 13
               refine (counted04n (.slice ro2 n2 rc2) q 2 m' wd HSd.out HQLEN.out HTQ.out HCQ.out).mono ?_
               rintro e we ⟨ro6, rc6, rfl, hex⟩
               have HEe : Hid (Ex wd.heap.size none wd we) := Lib.hid hex
               have HSe : Hid (Sl stRep (fun b => b < w8.heap.size) we (.slice ro2 n2 rc2) q) := Lib.hid (HSd.out.keep (by decide) fun b _ hlt => HEe.out.block b hlt (by simp))
               have HQe : Hid (we.heap[w8.heap.size]? = some (.cells #[.int .i64 2, .slice ro2 n2 rc2] 31 (0, 0))) := Lib.hid ((HEe.out.block _ (by omega) (by simp)).trans HQd.out)
               have hrl := peer_load HQe.out rfl
               clear hex d0 d1)
            | fail)
          go_ret
          exact ⟨rfl, ((HXd.out.trans HEf.out HXd.out.size (by simp)).trans HEg.out (by have := HXd.out.size; have := HEf.out.size; omega) (by simp)).below⟩
  · have h1' : decide ((l.length : Int) ≤ 400) = false := decide_eq_false h1
    clear fl0
    go_enter Tryz.func3, Tryz.ntmps3
    go_wp2_with (first
      | (go_at_call 6
         refine (light_any _ _ _ _).mono ?_
         rintro e w' ⟨rfl, rfl⟩)
      | (go_at_call 7
         refine (awake41_any w).mono ?_
         rintro e w' ⟨rfl, hex⟩)
      | fail)
    go_ret
    exact ⟨rfl, hex.below⟩
end Go.Proofs.YtaakacahblndcaaGreat

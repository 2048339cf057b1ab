/- RoutesSame: the walk. No statement of the seat. -/
import Derived.Test.YtfllcohnfboccaaRoutesWG
namespace Go.Proofs.Ytfllcohnfboccaa
open Go.RowKit Go.Sort

set_option maxHeartbeats 16000000 in
set_option maxRecDepth 100000 in
theorem routesSame_walk (v : Value) (L : List Int) (salt : ByteArray) (w : World) (hv : Ints w v L) (hm0 : L.length ≤ 9223372036854775807) (_hs0 : salt.size ≤ maxLen) :
    Calls Try.prog 7 #[v, .string salt] w fun e w' => e = .returned (.bool true) ∧ Below w.heap.size w w' := by
  obtain ⟨ao, cap, rfl, hx⟩ := hv
  have HX := Lib.hid hx
  clear hx
  by_cases hm : L.length ≤ 400
  · have hmd : decide ((L.length : Int) ≤ 400) = true := decide_eq_true (by omega)
    by_cases hs : salt.size ≤ 60
    · have hsI : decide ((60 : Int) < (salt.size : Int)) = false := decide_eq_false (by omega)
      have hsN : decide (60 < salt.size) = false := decide_eq_false (by omega)
      go_enter Try.func7, Try.ntmps7
      go_upto_region 5 with (first
        | (go_at_call 15; refine (madeLight_any _ _ _ _).mono ?_; rw [hmd]; rintro e w' ⟨rfl, rfl⟩)
        | (go_at_call 17
           refine (madeRoll_any (.slice ao L.length cap) L w ⟨ao, cap, rfl, HX.out⟩ (by omega)).mono ?_
           rintro e w1 ⟨p, rfl, hd, hp1, hp2, hex⟩
           have HD1 : Hid (DiceOK (p + 1) w1 p) := Lib.hid ⟨_, hd⟩
           have HE1 := Lib.hid hex
           have hz1 : w.heap.size ≤ w1.heap.size := hex.size
           clear hd hex)
        | (go_at_call 18
           refine (graph_w (p + 1) p w1 HD1.out hp2).mono ?_
           rintro e w2 ⟨sn, eo, en, ec, go, gn, gc, es, gone, rfl, ⟨hs2, hs9⟩, ⟨hen, hen22, hec⟩, hG, hsl, hd, hex⟩
           have HN := Lib.hid hen
           have HGR := Lib.hid hG
           have HSL := Lib.hid hsl
           have HD2 := Lib.hid hd
           have HE2 := Lib.hid hex
           have hz2 : w1.heap.size ≤ w2.heap.size := hex.size
           clear hen hG hsl hd hex)
        | fail)
      obtain ⟨w3, hw3⟩ : ∃ w3 : World, w3 = w2.alloc (.cells #[.int .i64 (sn : Int), .slice eo en ec, .slice go gn gc] 45) := ⟨_, rfl⟩
      have HE23 : Hid (Ex w2.heap.size none w2 w3) := Lib.hid (by rw [hw3]; exact Ex.new _ _)
      have hz3 : w2.heap.size + 1 ≤ w3.heap.size := by rw [hw3]; simp
      have HB3 : Hid (w3.heap[w2.heap.size]? = some (.cells #[.int .i64 (sn : Int), .slice eo en ec, .slice go gn gc] 45 (0, 0))) := Lib.hid (by rw [hw3]; exact heap_alloc_new _ _)
      rw [← hw3]
      clear hw3
      have HD3 : Hid (DiceOK (p + 1) w3 p) := Lib.hid (HD2.out.keep HE23.out (by omega))
      have HE3 : Hid (Ex w.heap.size none w w3) := Lib.hid ((HE1.out.trans ((HE2.out.trans HE23.out hz2 (by simp)).mono (show w.heap.size ≤ w1.heap.size by omega) |>.above (by omega)) (Nat.le_refl _) (by simp)))
      have HC : Hid (∀ w', Ex w3.heap.size (some p) w3 w' → w'.cell? ⟨w2.heap.size, 0, none⟩ = some (.int .i64 (sn : Int)) ∧ w'.cell? ⟨w2.heap.size, 1, none⟩ = some (.slice eo en ec) ∧ w'.cell? ⟨w2.heap.size, 2, none⟩ = some (.slice go gn gc)) := Lib.hid (fun w' h => by
        have k := (h.block w2.heap.size (by omega) (by simp; omega)).trans HB3.out
        refine ⟨?_, ?_, ?_⟩ <;> (rw [cell_of_row _ _ _ _ _ _ k]; rfl))
      have HXW : Hid (∀ w', Ex w3.heap.size (some p) w3 w' → SlAt edRep (fun b => w1.heap.size ≤ b) w' eo es) := Lib.hid (fun w' h => HSL.out.keep (by decide) fun b hb1 hb => (h.block b (by omega) (by simp; omega)).trans (HE23.out.block b hb (by simp)))
      have HGT : Hid (GraphT salt es) := Lib.hid (HGR.out.graphT (by omega) hs9)
      have HRF : Hid (Ex w3.heap.size (some p) w3 w3) := Lib.hid (Ex.refl _ _ _)
      clear HE1 HE2 HE23 HD1 HD2 HSL HX hmd hsI hsN
      obtain ⟨c0, c1, c2⟩ := HC.out _ HRF.out
      go_upto_region 6 with (fail)
      obtain ⟨w3a, hw3a⟩ : ∃ w3a : World, w3a = w3.alloc (.cells #[.int .i64 0, .slice none 0 0, .slice none 0 0] 45) := ⟨_, rfl⟩
      have HE3a : Hid (Ex w3.heap.size none w3 w3a) := Lib.hid (by rw [hw3a]; exact Ex.new w3 _)
      have HB3a : Hid (w3a.heap[w3.heap.size]? = some (.cells #[.int .i64 0, .slice none 0 0, .slice none 0 0] 45 (0, 0))) := Lib.hid (by rw [hw3a]; exact heap_alloc_new w3 _)
      rw [← hw3a]
      clear hw3a c0 c1 c2
      obtain ⟨c0, c1, c2⟩ := HC.out _ (HE3a.out.weaken (some p))
      have q0 : w3a.cell? ⟨w3.heap.size, 0, none⟩ = some (.int .i64 0) := by rw [cell_of_row _ _ _ _ _ _ HB3a.out]; rfl
      have f0 := row_frozen (i := 0) HB3a.out
      go_upto_region 8 with (fail)
      obtain ⟨w4, hw4⟩ : ∃ w4 : World, w4 = w3a.setCell ⟨w3.heap.size, 0, none⟩ (.int .i64 (sn : Int)) := ⟨_, rfl⟩
      have HE34 : Hid (Ex w3.heap.size none w3 w4) := Lib.hid (by rw [hw4]; exact HE3a.out.setCell _ none _ (.inr (Nat.le_refl _)))
      have HO4 : Hid (w4.heap[w3.heap.size]? = some (.cells #[.int .i64 (sn : Int), .slice none 0 0, .slice none 0 0] 45 (0, 0))) := Lib.hid (by rw [hw4, heap_setCell_same _ _ _ _ _ _ HB3a.out]; rfl)
      have hz4 : w3.heap.size + 1 ≤ w4.heap.size := (Array.getElem?_eq_some_iff.1 HO4.out).1
      rw [← hw4]
      clear hw4 c0 c1 c2 q0 f0 HB3a HE3a
      have HD4 : Hid (DiceOK (p + 1) w4 p) := Lib.hid (HD3.out.keep HE34.out (by omega))
      go_loopw [8, 9, 10, 11] (fun ii u1 u2 u3 wr => ∃ (i : Nat) (xo : Option Addr) (xn xc : Nat) (yo : Option Addr) (yc : Nat) (es2 : List EdD), ii = .int .i64 (i : Int) ∧ i ≤ en ∧ xn ≤ i ∧ Hid (wr.heap[w3.heap.size]? = some (.cells #[.int .i64 (sn : Int), .slice xo xn xc, .slice yo 0 yc] 45 (0, 0))) ∧ Hid (es2.length = xn ∧ xn ≤ xc) ∧ Hid (GrOK (sn : Int) es2 []) ∧ Hid (SameNb (es.take i) es2) ∧ Hid (SlAt edRep (fun b => w4.heap.size ≤ b) wr xo es2) ∧ Hid (DiceOK (p + 1) wr p) ∧ Hid (Ex w3.heap.size (some p) w3 wr) ∧ w4.heap.size ≤ wr.heap.size) (fun ii _ _ _ _ => en - (intOf ii).toNat)
      case atStart => exact ⟨0, none, 0, 0, none, 0, [], rfl, by omega, by omega, HO4, Lib.hid ⟨rfl, Nat.le_refl _⟩, Lib.hid (grOK_nil sn (by omega)), Lib.hid (fun a x => by simp), Lib.hid (SlAt.nil _ _ _), HD4, Lib.hid (HE34.out.weaken _), Nat.le_refl _⟩
      case round =>
        clear HO4 HD4 HE34
        obtain ⟨i, xo, xn, xc, yo, yc, es2, rfl, hi, hxi, HOB, HN2, HG2, HSM, HSL2, HD, HEX, hzr4⟩ := hrel
        have hzr : w3.heap.size ≤ wr.heap.size := HEX.out.size
        obtain ⟨c0, c1, c2⟩ := HC.out _ HEX.out
        by_cases hlt : i < en
        · have hltI : (i : Int) < (en : Int) := by omega
          have hltd : decide (i < en) = true := decide_eq_true hlt
          obtain ⟨b, off, ⟨f, t, l⟩, heo, _, hbl, q0, q1, q2, HK⟩ := ed_get (HXW.out _ HEX.out) i (by rw [HN.out]; exact hlt)
          subst heo
          obtain ⟨⟨hf0, ht0⟩, hne, ⟨_, _⟩, _, _⟩ := HGR.out.edge _ (List.mem_of_getElem? HK.out)
          simp only at q0 q1 q2 hf0 ht0 hne
          have HF : Hid (0 ≤ f ∧ f < (sn : Int)) := Lib.hid hf0
          have HT : Hid (0 ≤ t ∧ t < (sn : Int)) := Lib.hid ht0
          have HNE : Hid (f ≠ t) := Lib.hid hne
          clear hf0 ht0 hne
          go_upto_region 11 with (fail)
          obtain ⟨w5, hw5⟩ : ∃ w5 : World, w5 = wr.alloc (.cells #[.int .i64 f, .int .i64 t, .int .i64 l] 57) := ⟨_, rfl⟩
          have HE5 : Hid (Ex wr.heap.size none wr w5) := Lib.hid (by rw [hw5]; exact Ex.new _ _)
          have HB5 : Hid (w5.heap[wr.heap.size]? = some (.cells #[.int .i64 f, .int .i64 t, .int .i64 l] 57 (0, 0))) := Lib.hid (by rw [hw5]; exact heap_alloc_new _ _)
          have HD5 : Hid (DiceOK (p + 1) w5 p) := Lib.hid (by rw [hw5]; exact HD.out.keep (Ex.new wr _) (by omega))
          have hz5 : wr.heap.size < w5.heap.size := (Array.getElem?_eq_some_iff.1 HB5.out).1
          rw [← hw5]
          clear hw5 c0 c1 c2 q0 q1 q2
          go_wp2_with fail
          refine (one_w (p + 1) p 2 w5 HD5.out (by omega) (by omega)).mono ?_
          rintro e w6 ⟨bb, rfl, hd, hex⟩
          have HD6 := Lib.hid hd
          have HE6 : Hid (Ex wr.heap.size (some p) wr w6) := Lib.hid ((HE5.out.weaken (some p)).trans hex (by omega) (fun q e _ => by cases e; rfl))
          have HB6 : Hid (w6.heap[wr.heap.size]? = some (.cells #[.int .i64 f, .int .i64 t, .int .i64 l] 57 (0, 0))) := Lib.hid ((hex.block _ hz5 (by simp; omega)).trans HB5.out)
          have r0 : w6.cell? ⟨wr.heap.size, 0, none⟩ = some (.int .i64 f) := by rw [cell_of_row _ _ _ _ _ _ HB6.out]; rfl
          have r1 : w6.cell? ⟨wr.heap.size, 1, none⟩ = some (.int .i64 t) := by rw [cell_of_row _ _ _ _ _ _ HB6.out]; rfl
          have r2 : w6.cell? ⟨wr.heap.size, 2, none⟩ = some (.int .i64 l) := by rw [cell_of_row _ _ _ _ _ _ HB6.out]; rfl
          have f0 := row_frozen (i := 0) HB6.out
          have f1 := row_frozen (i := 1) HB6.out
          have f2 := row_frozen (i := 2) HB6.out
          clear hd hex
          cases bb with
          | true =>
            go_upto_region 13 with (fail)
            obtain ⟨w7, hw7⟩ : ∃ w7 : World, w7 = (w6.setCell ⟨wr.heap.size, 0, none⟩ (.int .i64 t)).setCell ⟨wr.heap.size, 1, none⟩ (.int .i64 f) := ⟨_, rfl⟩
            have HB7 : Hid (w7.heap[wr.heap.size]? = some (.cells #[.int .i64 t, .int .i64 f, .int .i64 l] 57 (0, 0))) := Lib.hid (by rw [hw7, heap_setCell_same _ _ _ _ _ _ (heap_setCell_same _ _ _ _ _ _ HB6.out)]; rfl)
            have HE7 : Hid (Ex wr.heap.size (some p) wr w7) := Lib.hid (by rw [hw7]; exact (HE6.out.setCell _ none _ (.inr (Nat.le_refl _))).setCell _ none _ (.inr (Nat.le_refl _)))
            have HD7 : Hid (DiceOK (p + 1) w7 p) := Lib.hid (by rw [hw7]; exact HD6.out.keep (((Ex.refl (p + 1) none w6).setCell _ none _ (.inr (by omega))).setCell _ none _ (.inr (by omega))) (Nat.le_refl _))
            rw [← hw7]
            clear hw7 r0 r1 r2 f0 f1 f2
            have hz7 : wr.heap.size ≤ w7.heap.size := HE7.out.size
            have hlt7 : wr.heap.size < w7.heap.size := (Array.getElem?_eq_some_iff.1 HB7.out).1
            go_upto_region 14 with (first
              | (go_at_call 11
                 refine (next_w (p + 1) p 3 w7 HD7.out (by omega) (by omega)).mono ?_
                 rintro e w8 ⟨k8, rfl, hk8, hd, hex⟩
                 have HD8 := Lib.hid hd
                 have HE8 : Hid (Ex wr.heap.size (some p) wr w8) := Lib.hid (HE7.out.trans hex hz7 (fun q e _ => by cases e; rfl))
                 have HB8 : Hid (w8.heap[wr.heap.size]? = some (.cells #[.int .i64 t, .int .i64 f, .int .i64 l] 57 (0, 0))) := Lib.hid ((hex.block _ hlt7 (by simp; omega)).trans HB7.out)
                 have hw8 : IntKind.i64.wrap (1 + (k8 : Int)) = 1 + (k8 : Int) := IntWalk.i64_in _ (by omega)
                 have q2 : w8.cell? ⟨wr.heap.size, 2, none⟩ = some (.int .i64 l) := (by rw [cell_of_row _ _ _ _ _ _ HB8.out]; rfl)
                 have f2 := row_frozen (i := 2) HB8.out
                 clear hd hex)
              | fail)
            obtain ⟨w9, hw9⟩ : ∃ w9 : World, w9 = w8.setCell ⟨wr.heap.size, 2, none⟩ (.int .i64 (1 + (k8 : Int))) := ⟨_, rfl⟩
            have HB9 : Hid (w9.heap[wr.heap.size]? = some (.cells #[.int .i64 t, .int .i64 f, .int .i64 (1 + (k8 : Int))] 57 (0, 0))) := Lib.hid (by rw [hw9, heap_setCell_same _ _ _ _ _ _ HB8.out]; rfl)
            have HE9 : Hid (Ex wr.heap.size (some p) wr w9) := Lib.hid (by rw [hw9]; exact HE8.out.setCell _ none _ (.inr (Nat.le_refl _)))
            have HD9 : Hid (DiceOK (p + 1) w9 p) := Lib.hid (by rw [hw9]; exact HD8.out.keep ((Ex.refl (p + 1) none w8).setCell _ none _ (.inr (by omega))) (Nat.le_refl _))
            rw [← hw9]
            clear hw9 q2 f2 hw8 HB8 HB7 HE8 HE7 HD8 HD7
            have hz9 : wr.heap.size ≤ w9.heap.size := HE9.out.size
            have HO9 : Hid (w9.heap[w3.heap.size]? = some (.cells #[.int .i64 (sn : Int), .slice xo xn xc, .slice yo 0 yc] 45 (0, 0))) := Lib.hid ((HE9.out.block _ (by omega) (by simp; omega)).trans HOB.out)
            have HS9 : Hid (SlAt edRep (fun b => w4.heap.size ≤ b) w9 xo es2) := Lib.hid (HSL2.out.keep (by decide) fun b hb1 hb => HE9.out.block b hb (by simp; omega))
            have v0 : w9.cell? ⟨w3.heap.size, 0, none⟩ = some (.int .i64 (sn : Int)) := by rw [cell_of_row _ _ _ _ _ _ HO9.out]; rfl
            have v1 : w9.cell? ⟨w3.heap.size, 1, none⟩ = some (.slice xo xn xc) := by rw [cell_of_row _ _ _ _ _ _ HO9.out]; rfl
            have v2 : w9.cell? ⟨w3.heap.size, 2, none⟩ = some (.slice yo 0 yc) := by rw [cell_of_row _ _ _ _ _ _ HO9.out]; rfl
            have u0 : w9.cell? ⟨wr.heap.size, 0, none⟩ = some (.int .i64 t) := by rw [cell_of_row _ _ _ _ _ _ HB9.out]; rfl
            have u1 : w9.cell? ⟨wr.heap.size, 1, none⟩ = some (.int .i64 f) := by rw [cell_of_row _ _ _ _ _ _ HB9.out]; rfl
            have u2 : w9.cell? ⟨wr.heap.size, 2, none⟩ = some (.int .i64 (1 + (k8 : Int))) := by rw [cell_of_row _ _ _ _ _ _ HB9.out]; rfl
            go_upto_region 15 with (first
              | (go_at_call 27
                 refine (with11_v (sn : Int) xo xn xc yo 0 yc es2 [] t f (1 + (k8 : Int)) w9 HS9.out HN2.out.1 HN2.out.2 (IntsAt.nil _ _) rfl HG2.out HT.out HF.out (by omega) (by omega)).mono ?_
                 rintro e w10 ⟨z, ao', an, ac, bo', bn, bc, E, rfl, hp, hex⟩
                 have HP := hp
                 have HE10 : Hid (Ex w9.heap.size none w9 w10) := Lib.hid hex
                 have hz10 : w9.heap.size ≤ w10.heap.size := hex.size
                 clear hp hex v0 v1 v2 u0 u1 u2)
              | fail)
            obtain ⟨w11, hw11⟩ : ∃ w11 : World, w11 = w10.alloc (.cells #[.int .i64 z, .slice ao' an ac, .slice bo' bn bc] 45) := ⟨_, rfl⟩
            have HE11 : Hid (Ex w9.heap.size none w9 w11) := Lib.hid (by rw [hw11]; exact HE10.out.alloc hz10 _)
            have HB11 : Hid (w11.heap[w10.heap.size]? = some (.cells #[.int .i64 z, .slice ao' an ac, .slice bo' bn bc] 45 (0, 0))) := Lib.hid (by rw [hw11]; exact heap_alloc_new _ _)
            have HE1011 : Hid (Ex w10.heap.size none w10 w11) := Lib.hid (by rw [hw11]; exact Ex.new _ _)
            rw [← hw11]
            clear hw11
            have hz11 : w9.heap.size ≤ w11.heap.size := HE11.out.size
            have HO11 : Hid (w11.heap[w3.heap.size]? = some (.cells #[.int .i64 (sn : Int), .slice xo xn xc, .slice yo 0 yc] 45 (0, 0))) := Lib.hid ((HE11.out.block _ (by omega) (by simp)).trans HO9.out)
            have HS11 : Hid (SlAt edRep (fun b => w4.heap.size ≤ b) w11 xo es2) := Lib.hid (HS9.out.keep (by decide) fun b hb1 hb => HE11.out.block b hb (by simp))
            have HD11 : Hid (DiceOK (p + 1) w11 p) := Lib.hid (HD9.out.keep HE11.out (by omega))
            have HEX11 : Hid (Ex w3.heap.size (some p) w3 w11) := Lib.hid ((HEX.out.trans HE9.out hzr (fun q e _ => by cases e; rfl)).trans HE11.out (by omega) (by simp))
            by_cases hE : E = 0
            · have hEd : (E == 0) = true := by simp [hE]
              obtain ⟨hz', hx', hy', es3, hl3, hg3, hm3, ho3, -⟩ : z = (sn : Int) ∧ an = xn + 1 ∧ bn = 0 ∧ ∃ es3, es3.length = xn + 1 ∧ GrOK (sn : Int) es3 [] ∧ (∀ x, x ∈ es3 ↔ x = (t, f, 1 + (k8 : Int)) ∨ x ∈ es2) ∧ OwnE edE 3 57 w10 w9.heap.size ao' ac es3 ∧ OwnI w10 w9.heap.size bo' bc [] := by
                rcases HP.out with h | ⟨_, h⟩
                · exact absurd hE h.1
                · exact h
              have HSM3 : Hid (SameNb (es.take (i + 1)) es3) := Lib.hid (by rw [ed_up HK.out]; exact HSM.out.add (.inr ⟨rfl, rfl⟩) hm3)
              have HG3 := Lib.hid hg3
              have HS3 : Hid (SlAt edRep (fun b => w4.heap.size ≤ b) w11 ao' es3) := Lib.hid (by
                have h := ho3.keep HE1011.out (Nat.le_refl _) (by simp)
                rcases h.cases with ⟨_, _, e⟩ | ⟨g, e, hg, _, _⟩
                · rw [e]; exact SlAt.nil _ _ _
                · rw [e] at h; rw [e]; exact val_sl (by omega) (h.holds edE_len))
              have HN3 : Hid (es3.length = xn + 1 ∧ xn + 1 ≤ ac) := Lib.hid ⟨hl3, by
                rcases ho3.cases with ⟨_, _, h⟩ | ⟨g, h, _, _, h'⟩
                · rw [h] at hl3; cases hl3
                · omega⟩
              clear hm3 hg3 ho3 hl3 HP hE
              subst hz'
              subst hx'
              subst hy'
              have b0 : w11.cell? ⟨w10.heap.size, 0, none⟩ = some (.int .i64 (sn : Int)) := by rw [cell_of_row _ _ _ _ _ _ HB11.out]; rfl
              have b1 : w11.cell? ⟨w10.heap.size, 1, none⟩ = some (.slice ao' (xn + 1) ac) := by rw [cell_of_row _ _ _ _ _ _ HB11.out]; rfl
              have b2 : w11.cell? ⟨w10.heap.size, 2, none⟩ = some (.slice bo' 0 bc) := by rw [cell_of_row _ _ _ _ _ _ HB11.out]; rfl
              go_wp2_with (first
                | (refine wpList_store_rowTo rfl 45 (.tmp 7) (.tmp 66) rfl rfl w3.heap.size #[.int .i64 (sn : Int), .slice ao' (xn + 1) ac, .slice bo' 0 bc] (by rfl) (by rfl) 45 _ HO11.out Try.sizeGr rfl (by simp [Value.oneCell']) ?_)
                | fail)
              go_roundw
              case rel => exact ⟨i + 1, ao', xn + 1, ac, bo', bc, es3, by go_num, by omega, by omega, Lib.hid (setRow_heap _ _ _ _ _ _ HO11.out), HN3, HG3, HSM3,
                  Lib.hid (HS3.out.keep (by decide) fun b hb1 hb => (Ex.setRow (Ex.refl w11.heap.size (some w3.heap.size) w11) _ _ (.inl rfl)).block b hb (by simp; omega)),
                  Lib.hid (HD11.out.keep (Ex.setRow (Ex.refl (p + 1) none w11) _ _ (.inr (by omega))) (Nat.le_refl _)),
                  Lib.hid (Ex.setRow HEX11.out _ _ (.inr (Nat.le_refl _))), Nat.le_trans (by omega : w4.heap.size ≤ w11.heap.size) (Ex.setRow (Ex.refl w3.heap.size none w11) _ _ (.inr (Nat.le_refl _))).size⟩
              case measure => simp [intOf] <;> omega
            · have hEd : (E == 0) = false := by simp [hE]
              have HSM3 : Hid (SameNb (es.take (i + 1)) es2) := Lib.hid (by
                rw [ed_up HK.out]
                refine HSM.out.had (f := t) (t := f) (.inr ⟨rfl, rfl⟩) ?_
                rcases HP.out with ⟨_, h | h | h | h⟩ | ⟨h, _⟩
                · exact absurd h (Ne.symm HNE.out)
                · cases h
                · cases h
                · exact h
                · exact absurd h hE)
              clear HP hE
              go_wp2
              go_roundw
              case rel => exact ⟨i + 1, xo, xn, xc, yo, yc, es2, by go_num, by omega, by omega, HO11, HN2, HG2, HSM3, HS11, HD11, HEX11, by omega⟩
              case measure => simp [intOf] <;> omega
          | false =>
            have HB7 := HB6
            have HE7 := HE6
            have HD7 := HD6
            clear r0 r1 r2 f0 f1 f2
            have hz7 : wr.heap.size ≤ w6.heap.size := HE7.out.size
            have hlt7 : wr.heap.size < w6.heap.size := (Array.getElem?_eq_some_iff.1 HB7.out).1
            go_upto_region 14 with (first
              | (go_at_call 11
                 refine (next_w (p + 1) p 3 w6 HD7.out (by omega) (by omega)).mono ?_
                 rintro e w8 ⟨k8, rfl, hk8, hd, hex⟩
                 have HD8 := Lib.hid hd
                 have HE8 : Hid (Ex wr.heap.size (some p) wr w8) := Lib.hid (HE7.out.trans hex hz7 (fun q e _ => by cases e; rfl))
                 have HB8 : Hid (w8.heap[wr.heap.size]? = some (.cells #[.int .i64 f, .int .i64 t, .int .i64 l] 57 (0, 0))) := Lib.hid ((hex.block _ hlt7 (by simp; omega)).trans HB7.out)
                 have hw8 : IntKind.i64.wrap (1 + (k8 : Int)) = 1 + (k8 : Int) := IntWalk.i64_in _ (by omega)
                 have q2 : w8.cell? ⟨wr.heap.size, 2, none⟩ = some (.int .i64 l) := (by rw [cell_of_row _ _ _ _ _ _ HB8.out]; rfl)
                 have f2 := row_frozen (i := 2) HB8.out
                 clear hd hex)
              | fail)
            obtain ⟨w9, hw9⟩ : ∃ w9 : World, w9 = w8.setCell ⟨wr.heap.size, 2, none⟩ (.int .i64 (1 + (k8 : Int))) := ⟨_, rfl⟩
            have HB9 : Hid (w9.heap[wr.heap.size]? = some (.cells #[.int .i64 f, .int .i64 t, .int .i64 (1 + (k8 : Int))] 57 (0, 0))) := Lib.hid (by rw [hw9, heap_setCell_same _ _ _ _ _ _ HB8.out]; rfl)
            have HE9 : Hid (Ex wr.heap.size (some p) wr w9) := Lib.hid (by rw [hw9]; exact HE8.out.setCell _ none _ (.inr (Nat.le_refl _)))
            have HD9 : Hid (DiceOK (p + 1) w9 p) := Lib.hid (by rw [hw9]; exact HD8.out.keep ((Ex.refl (p + 1) none w8).setCell _ none _ (.inr (by omega))) (Nat.le_refl _))
            rw [← hw9]
            clear hw9 q2 f2 hw8 HB8 HB7 HE8 HE7 HD8 HD7
            have hz9 : wr.heap.size ≤ w9.heap.size := HE9.out.size
            have HO9 : Hid (w9.heap[w3.heap.size]? = some (.cells #[.int .i64 (sn : Int), .slice xo xn xc, .slice yo 0 yc] 45 (0, 0))) := Lib.hid ((HE9.out.block _ (by omega) (by simp; omega)).trans HOB.out)
            have HS9 : Hid (SlAt edRep (fun b => w4.heap.size ≤ b) w9 xo es2) := Lib.hid (HSL2.out.keep (by decide) fun b hb1 hb => HE9.out.block b hb (by simp; omega))
            have v0 : w9.cell? ⟨w3.heap.size, 0, none⟩ = some (.int .i64 (sn : Int)) := by rw [cell_of_row _ _ _ _ _ _ HO9.out]; rfl
            have v1 : w9.cell? ⟨w3.heap.size, 1, none⟩ = some (.slice xo xn xc) := by rw [cell_of_row _ _ _ _ _ _ HO9.out]; rfl
            have v2 : w9.cell? ⟨w3.heap.size, 2, none⟩ = some (.slice yo 0 yc) := by rw [cell_of_row _ _ _ _ _ _ HO9.out]; rfl
            have u0 : w9.cell? ⟨wr.heap.size, 0, none⟩ = some (.int .i64 f) := by rw [cell_of_row _ _ _ _ _ _ HB9.out]; rfl
            have u1 : w9.cell? ⟨wr.heap.size, 1, none⟩ = some (.int .i64 t) := by rw [cell_of_row _ _ _ _ _ _ HB9.out]; rfl
            have u2 : w9.cell? ⟨wr.heap.size, 2, none⟩ = some (.int .i64 (1 + (k8 : Int))) := by rw [cell_of_row _ _ _ _ _ _ HB9.out]; rfl
            go_upto_region 15 with (first
              | (go_at_call 27
                 refine (with11_v (sn : Int) xo xn xc yo 0 yc es2 [] f t (1 + (k8 : Int)) w9 HS9.out HN2.out.1 HN2.out.2 (IntsAt.nil _ _) rfl HG2.out HF.out HT.out (by omega) (by omega)).mono ?_
                 rintro e w10 ⟨z, ao', an, ac, bo', bn, bc, E, rfl, hp, hex⟩
                 have HP := hp
                 have HE10 : Hid (Ex w9.heap.size none w9 w10) := Lib.hid hex
                 have hz10 : w9.heap.size ≤ w10.heap.size := hex.size
                 clear hp hex v0 v1 v2 u0 u1 u2)
              | fail)
            obtain ⟨w11, hw11⟩ : ∃ w11 : World, w11 = w10.alloc (.cells #[.int .i64 z, .slice ao' an ac, .slice bo' bn bc] 45) := ⟨_, rfl⟩
            have HE11 : Hid (Ex w9.heap.size none w9 w11) := Lib.hid (by rw [hw11]; exact HE10.out.alloc hz10 _)
            have HB11 : Hid (w11.heap[w10.heap.size]? = some (.cells #[.int .i64 z, .slice ao' an ac, .slice bo' bn bc] 45 (0, 0))) := Lib.hid (by rw [hw11]; exact heap_alloc_new _ _)
            have HE1011 : Hid (Ex w10.heap.size none w10 w11) := Lib.hid (by rw [hw11]; exact Ex.new _ _)
            rw [← hw11]
            clear hw11
            have hz11 : w9.heap.size ≤ w11.heap.size := HE11.out.size
            have HO11 : Hid (w11.heap[w3.heap.size]? = some (.cells #[.int .i64 (sn : Int), .slice xo xn xc, .slice yo 0 yc] 45 (0, 0))) := Lib.hid ((HE11.out.block _ (by omega) (by simp)).trans HO9.out)
            have HS11 : Hid (SlAt edRep (fun b => w4.heap.size ≤ b) w11 xo es2) := Lib.hid (HS9.out.keep (by decide) fun b hb1 hb => HE11.out.block b hb (by simp))
            have HD11 : Hid (DiceOK (p + 1) w11 p) := Lib.hid (HD9.out.keep HE11.out (by omega))
            have HEX11 : Hid (Ex w3.heap.size (some p) w3 w11) := Lib.hid ((HEX.out.trans HE9.out hzr (fun q e _ => by cases e; rfl)).trans HE11.out (by omega) (by simp))
            by_cases hE : E = 0
            · have hEd : (E == 0) = true := by simp [hE]
              obtain ⟨hz', hx', hy', es3, hl3, hg3, hm3, ho3, -⟩ : z = (sn : Int) ∧ an = xn + 1 ∧ bn = 0 ∧ ∃ es3, es3.length = xn + 1 ∧ GrOK (sn : Int) es3 [] ∧ (∀ x, x ∈ es3 ↔ x = (f, t, 1 + (k8 : Int)) ∨ x ∈ es2) ∧ OwnE edE 3 57 w10 w9.heap.size ao' ac es3 ∧ OwnI w10 w9.heap.size bo' bc [] := by
                rcases HP.out with h | ⟨_, h⟩
                · exact absurd hE h.1
                · exact h
              have HSM3 : Hid (SameNb (es.take (i + 1)) es3) := Lib.hid (by rw [ed_up HK.out]; exact HSM.out.add (.inl ⟨rfl, rfl⟩) hm3)
              have HG3 := Lib.hid hg3
              have HS3 : Hid (SlAt edRep (fun b => w4.heap.size ≤ b) w11 ao' es3) := Lib.hid (by
                have h := ho3.keep HE1011.out (Nat.le_refl _) (by simp)
                rcases h.cases with ⟨_, _, e⟩ | ⟨g, e, hg, _, _⟩
                · rw [e]; exact SlAt.nil _ _ _
                · rw [e] at h; rw [e]; exact val_sl (by omega) (h.holds edE_len))
              have HN3 : Hid (es3.length = xn + 1 ∧ xn + 1 ≤ ac) := Lib.hid ⟨hl3, by
                rcases ho3.cases with ⟨_, _, h⟩ | ⟨g, h, _, _, h'⟩
                · rw [h] at hl3; cases hl3
                · omega⟩
              clear hm3 hg3 ho3 hl3 HP hE
              subst hz'
              subst hx'
              subst hy'
              have b0 : w11.cell? ⟨w10.heap.size, 0, none⟩ = some (.int .i64 (sn : Int)) := by rw [cell_of_row _ _ _ _ _ _ HB11.out]; rfl
              have b1 : w11.cell? ⟨w10.heap.size, 1, none⟩ = some (.slice ao' (xn + 1) ac) := by rw [cell_of_row _ _ _ _ _ _ HB11.out]; rfl
              have b2 : w11.cell? ⟨w10.heap.size, 2, none⟩ = some (.slice bo' 0 bc) := by rw [cell_of_row _ _ _ _ _ _ HB11.out]; rfl
              go_wp2_with (first
                | (refine wpList_store_rowTo rfl 45 (.tmp 7) (.tmp 66) rfl rfl w3.heap.size #[.int .i64 (sn : Int), .slice ao' (xn + 1) ac, .slice bo' 0 bc] (by rfl) (by rfl) 45 _ HO11.out Try.sizeGr rfl (by simp [Value.oneCell']) ?_)
                | fail)
              go_roundw
              case rel => exact ⟨i + 1, ao', xn + 1, ac, bo', bc, es3, by go_num, by omega, by omega, Lib.hid (setRow_heap _ _ _ _ _ _ HO11.out), HN3, HG3, HSM3,
                  Lib.hid (HS3.out.keep (by decide) fun b hb1 hb => (Ex.setRow (Ex.refl w11.heap.size (some w3.heap.size) w11) _ _ (.inl rfl)).block b hb (by simp; omega)),
                  Lib.hid (HD11.out.keep (Ex.setRow (Ex.refl (p + 1) none w11) _ _ (.inr (by omega))) (Nat.le_refl _)),
                  Lib.hid (Ex.setRow HEX11.out _ _ (.inr (Nat.le_refl _))), Nat.le_trans (by omega : w4.heap.size ≤ w11.heap.size) (Ex.setRow (Ex.refl w3.heap.size none w11) _ _ (.inr (Nat.le_refl _))).size⟩
              case measure => simp [intOf] <;> omega
            · have hEd : (E == 0) = false := by simp [hE]
              have HSM3 : Hid (SameNb (es.take (i + 1)) es2) := Lib.hid (by
                rw [ed_up HK.out]
                refine HSM.out.had (f := f) (t := t) (.inl ⟨rfl, rfl⟩) ?_
                rcases HP.out with ⟨_, h | h | h | h⟩ | ⟨h, _⟩
                · exact absurd h HNE.out
                · cases h
                · cases h
                · exact h
                · exact absurd h hE)
              clear HP hE
              go_wp2
              go_roundw
              case rel => exact ⟨i + 1, xo, xn, xc, yo, yc, es2, by go_num, by omega, by omega, HO11, HN2, HG2, HSM3, HS11, HD11, HEX11, by omega⟩
              case measure => simp [intOf] <;> omega
        · have hltI : ¬ (i : Int) < (en : Int) := by omega
          have hltd : decide (i < en) = false := decide_eq_false hlt
          have HSF : Hid (SameNb es es2) := Lib.hid (by
            have h := HSM.out
            rwa [List.take_of_length_le (by rw [HN.out]; omega)] at h)
          have HGT2 : Hid (GraphT salt es2) := Lib.hid (HG2.out.graphT (by omega) hs9)
          have hxn22 : xn ≤ 22 := by omega
          go_upto_region 18 with (fail)
          clear c0 c1 c2
          obtain ⟨wo, hwo⟩ : ∃ wo : World, wo = wr := ⟨_, rfl⟩
          subst hwo
          go_loopw [12, 13, 14, 15, 16, 17] (fun kk u1 u2 u3 u4 u5 wr => ∃ (k : Nat), kk = .int .i64 (k : Int) ∧ k ≤ sn ∧ Hid (DiceOK (p + 1) wr p) ∧ Hid (Ex wo.heap.size (some p) wo wr)) (fun kk _ _ _ _ _ _ => sn - (intOf kk).toNat)
          case atStart => exact ⟨0, rfl, by omega, HD, Lib.hid (Ex.refl _ _ _)⟩
          case round =>
            obtain ⟨k, rfl, hk, HDK, HEK⟩ := hrel
            have hzk : wo.heap.size ≤ wr.heap.size := HEK.out.size
            have HEW : Hid (Ex w3.heap.size (some p) w3 wr) := Lib.hid (HEX.out.trans HEK.out hzr (fun q e _ => by cases e; rfl))
            have hzw : w3.heap.size ≤ wr.heap.size := HEW.out.size
            obtain ⟨c0, c1, c2⟩ := HC.out _ HEW.out
            by_cases hlk : k < sn
            · have hlkI : (k : Int) < (sn : Int) := by omega
              have hlkd : decide (k < sn) = true := decide_eq_true hlk
              go_upto_region 21 with (first
                | (go_at_call 25
                   refine (nb20_any (sn : Int) eo en ec go gn gc es (k : Int) wr (HXW.out _ HEW.out) HN.out (by omega)).mono ?_
                   rintro e w5 ⟨no, nc, nn, rfl, hnn, hown, hex⟩
                   have HNN := Lib.hid hnn
                   have HNI := Lib.hid hown.ints
                   have HNA : Hid (nbI es (k : Int) ≠ [] → Away p no) := Lib.hid (fun _ => hown.away (by omega))
                   have HE5 : Hid (Ex w3.heap.size (some p) w3 w5) := Lib.hid (HEW.out.trans hex hzw (by simp))
                   have HK5 : Hid (Ex wo.heap.size (some p) wo w5) := Lib.hid (HEK.out.trans hex hzk (by simp))
                   have HD5 : Hid (DiceOK (p + 1) w5 p) := Lib.hid (HDK.out.keep hex (by omega))
                   have hz5 : w3.heap.size ≤ w5.heap.size := HE5.out.size
                   have hz5k : wo.heap.size ≤ w5.heap.size := HK5.out.size
                   have hnn12 : nn ≤ 12 := (by rw [← hnn]; exact HGT.out.few (k : Int))
                   clear hnn hown hex c0 c1 c2)
                | fail)
              by_cases hn0 : nn = 0
              · have hn0d : ((nn : Int) == 0) = true := by simp [hn0]
                have hn0N : (nn == 0) = true := by simp [hn0]
                clear hn0
                go_wp2
                go_roundw
                case rel => exact ⟨k + 1, by go_num, by omega, HD5, HK5⟩
                case measure => simp [intOf] <;> omega
              · have hn0d : ((nn : Int) == 0) = false := by simp; omega
                have hn0N : (nn == 0) = false := by simp; omega
                have hn1 : 1 ≤ nn := by omega
                clear hn0
                go_upto_region 23 with (first
                  | (go_at_call 11
                     refine (next_w (p + 1) p (nn : Int) w5 HD5.out (by omega) (by omega)).mono ?_
                     rintro e w6 ⟨j, rfl, hj, hd, hex⟩
                     have HD6 := Lib.hid hd
                     have HE6 : Hid (Ex w3.heap.size (some p) w3 w6) := Lib.hid (HE5.out.trans hex hz5 (fun q e _ => by cases e; rfl))
                     have HK6 : Hid (Ex wo.heap.size (some p) wo w6) := Lib.hid (HK5.out.trans hex hz5k (fun q e _ => by cases e; rfl))
                     have hz6 : w3.heap.size ≤ w6.heap.size := HE6.out.size
                     have hz6k : wo.heap.size ≤ w6.heap.size := HK6.out.size
                     have hjN : j < nn := (by omega)
                     obtain ⟨b, off, y, hno, cy, HY⟩ := (HNI.out.keep hex (Nat.le_refl _) (fun q e hne => by cases e; exact HNA.out hne)).get j (by rw [HNN.out]; exact hjN)
                     subst hno
                     clear hd hex)
                  | fail)
                have HYM : Hid (y ∈ nbI es (k : Int)) := Lib.hid (by rw [← HY.out]; exact getD_mem (by rw [HNN.out]; exact hjN))
                clear cy
                have HR5 : Hid (routeL salt es (k : Int) y 5 = rtI (tabI salt es) ((k : Int), y) 4) := Lib.hid (routeL_eq (m := 4) (by omega) HYM.out)
                have HR3 : Hid (routeL salt es (k : Int) y 3 = rtI (tabI salt es) ((k : Int), y) 2) := Lib.hid (routeL_eq (m := 2) (by omega) HYM.out)
                have HR5b : Hid (routeL salt es2 (k : Int) y 5 = rtI (tabI salt es) ((k : Int), y) 4) := Lib.hid (by rw [← routeL_same HSF.out]; exact HR5.out)
                have HQ : Hid (∀ w', Ex w6.heap.size none w6 w' → (w'.cell? ⟨w2.heap.size, 0, none⟩ = some (.int .i64 (sn : Int)) ∧ w'.cell? ⟨w2.heap.size, 1, none⟩ = some (.slice eo en ec) ∧ w'.cell? ⟨w2.heap.size, 2, none⟩ = some (.slice go gn gc) ∧ w'.cell? ⟨w3.heap.size, 0, none⟩ = some (.int .i64 (sn : Int)) ∧ w'.cell? ⟨w3.heap.size, 1, none⟩ = some (.slice xo xn xc) ∧ w'.cell? ⟨w3.heap.size, 2, none⟩ = some (.slice yo 0 yc)) ∧ SlAt edRep (fun b => w1.heap.size ≤ b) w' eo es ∧ SlAt edRep (fun b => w4.heap.size ≤ b) w' xo es2) := Lib.hid (fun w' h => by
                  have h6 := HE6.out.trans h hz6 (by simp)
                  have h6k := HK6.out.trans h hz6k (by simp)
                  have ho := (h6k.block w3.heap.size (by omega) (by simp; omega)).trans HOB.out
                  obtain ⟨h0, h1, h2⟩ := HC.out _ h6
                  refine ⟨⟨h0, h1, h2, ?_, ?_, ?_⟩, HXW.out _ h6, HSL2.out.keep (by decide) fun b hb1 hb => h6k.block b hb (by simp; omega)⟩ <;> (rw [cell_of_row _ _ _ _ _ _ ho]; rfl))
                go_region_held3 (fun w' => w'.cell? ⟨w2.heap.size, 0, none⟩ = some (.int .i64 (sn : Int)) ∧ w'.cell? ⟨w2.heap.size, 1, none⟩ = some (.slice eo en ec) ∧ w'.cell? ⟨w2.heap.size, 2, none⟩ = some (.slice go gn gc) ∧ w'.cell? ⟨w3.heap.size, 0, none⟩ = some (.int .i64 (sn : Int)) ∧ w'.cell? ⟨w3.heap.size, 1, none⟩ = some (.slice xo xn xc) ∧ w'.cell? ⟨w3.heap.size, 2, none⟩ = some (.slice yo 0 yc))
                  (first | exact (HQ.out _ H9.out).1 | exact (HQ.out _ H8.out).1 | exact (HQ.out _ H7.out).1 | exact (HQ.out _ (Ex.refl _ _ w6).drew).1 | exact (HQ.out _ (Ex.refl _ _ w6)).1 | fail)
                  (first
                    | (go_at_call 20
                       (fail_if_success (first | have _x := H7 | fail))
                       refine (routeP_any2 (sn : Int) eo en ec go gn gc es salt (k : Int) y 5 _ (HQ.out _ (Ex.refl _ none w6).drew).2.1 HN.out HGT.out).mono ?_
                       rw [HR5.out]
                       rintro e w7 ⟨r1, rc1, rn1, rfl, hl1, hs1, hrc1, hex⟩
                       rw [rtI_len] at hl1
                       subst hl1
                       have H7 : Hid (Ex w6.heap.size none w6 w7) := Lib.hid ((Ex.refl _ none w6).drew.trans hex (Nat.le_refl _) (by simp))
                       have HI1 : Hid (IntsAt w7 r1 (rtI (tabI salt es) ((k : Int), y) 4)) := Lib.hid (slI_ints hs1)
                       have hz7 : w6.heap.size ≤ w7.heap.size := H7.out.size
                       clear hs1 hex)
                    | (go_at_call 20
                       (fail_if_success (first | have _x := H8 | fail))
                       refine (routeP_any2 (sn : Int) xo xn xc yo 0 yc es2 salt (k : Int) y 5 w7 (HQ.out _ H7.out).2.2 HN2.out.1 HGT2.out).mono ?_
                       rw [HR5b.out]
                       rintro e w8 ⟨r2, rc2, rn2, rfl, hl2, hs2', _, hex⟩
                       rw [rtI_len] at hl2
                       subst hl2
                       have H8 : Hid (Ex w6.heap.size none w6 w8) := Lib.hid (H7.out.trans hex hz7 (by simp))
                       have HI1b : Hid (IntsAt w8 r1 (rtI (tabI salt es) ((k : Int), y) 4)) := Lib.hid (HI1.out.keep hex (Nat.le_refl _) (by simp))
                       have HI2 : Hid (IntsAt w8 r2 (rtI (tabI salt es) ((k : Int), y) 4)) := Lib.hid (slI_ints hs2')
                       have hz8 : w6.heap.size ≤ w8.heap.size := H8.out.size
                       clear hs2' hex)
                    | (go_at_call 20
                       refine (routeP_any2 (sn : Int) eo en ec go gn gc es salt (k : Int) y 3 w8 (HQ.out _ H8.out).2.1 HN.out HGT.out).mono ?_
                       rw [HR3.out]
                       rintro e w9 ⟨r3, rc3, rn3, rfl, hl3, hs3, _, hex⟩
                       rw [rtI_len] at hl3
                       subst hl3
                       have H9 : Hid (Ex w6.heap.size none w6 w9) := Lib.hid (H8.out.trans hex hz8 (by simp))
                       have HI1c : Hid (IntsAt w9 r1 (rtI (tabI salt es) ((k : Int), y) 4)) := Lib.hid (HI1b.out.keep hex (Nat.le_refl _) (by simp))
                       have HI2c : Hid (IntsAt w9 r2 (rtI (tabI salt es) ((k : Int), y) 4)) := Lib.hid (HI2.out.keep hex (Nat.le_refl _) (by simp))
                       have HI3 : Hid (IntsAt w9 r3 (rtI (tabI salt es) ((k : Int), y) 2)) := Lib.hid (slI_ints hs3)
                       have hz9 : w6.heap.size ≤ w9.heap.size := H9.out.size
                       clear hs3 hex)
                    | fail)
                have hc4 : (4 : Int) ≤ (rc1 : Int) := by omega
                have hc4n : 4 ≤ rc1 := by omega
                go_wp2_with (first
                  | (go_at_call 28
                     (fail_if_success (first | have _x := HS1 | fail))
                     refine (same03Ints_any _ _ (rtI (tabI salt es) ((k : Int), y) 4) (rtI (tabI salt es) ((k : Int), y) 4) w9 ⟨r1, rc1, by rw [rtI_len], HI1c.out⟩ ⟨r2, rc2, by rw [rtI_len], HI2c.out⟩ (by rw [rtI_len]; omega)).mono ?_
                     rw [decide_eq_true (rfl : rtI (tabI salt es) ((k : Int), y) 4 = rtI (tabI salt es) ((k : Int), y) 4)]
                     rintro e w10 ⟨rfl, hex⟩
                     have HS1 : Hid (Ex w6.heap.size none w6 w10) := Lib.hid (H9.out.trans hex hz9 (by simp))
                     have HI1d : Hid (IntsAt w10 r1 (rtI (tabI salt es) ((k : Int), y) 4)) := Lib.hid (HI1c.out.keep hex (Nat.le_refl _) (by simp))
                     have HI3d : Hid (IntsAt w10 r3 (rtI (tabI salt es) ((k : Int), y) 2)) := Lib.hid (HI3.out.keep hex (Nat.le_refl _) (by simp))
                     have hz10 : w6.heap.size ≤ w10.heap.size := HS1.out.size
                     clear hex)
                  | (go_at_call 28
                     refine (same03Ints_any _ _ (rtI (tabI salt es) ((k : Int), y) 2) (rtI (tabI salt es) ((k : Int), y) 2) w10 ⟨r1, rc1, by rw [rtI_len], by have h := HI1d.out.take 4; rwa [rtI_take _ _ (k := 2) (by omega)] at h⟩ ⟨r3, rc3, by rw [rtI_len], HI3d.out⟩ (by rw [rtI_len]; omega)).mono ?_
                     rw [decide_eq_true (rfl : rtI (tabI salt es) ((k : Int), y) 2 = rtI (tabI salt es) ((k : Int), y) 2)]
                     rintro e w11 ⟨rfl, hex⟩
                     have HS2 : Hid (Ex w6.heap.size none w6 w11) := Lib.hid (HS1.out.trans hex hz10 (by simp))
                     clear hex)
                  | fail)
                go_roundw
                case rel => exact ⟨k + 1, by go_num, by omega, HD6.out.keep HS2.out (by omega), HK6.out.trans HS2.out hz6k (by simp)⟩
                case measure => simp [intOf] <;> omega
            · have hlkI : ¬ (k : Int) < (sn : Int) := by omega
              have hlkd : decide (k < sn) = false := decide_eq_false hlk
              go_wp2_with (first | (go_at_call 16; refine (awake20_any _).mono ?_; rintro e w9 ⟨rfl, hex9⟩) | fail)
              go_ret
              exact ⟨rfl, (((HE3.out.trans ((HEW.out.trans hex9 hzw (by simp)).mono (show w.heap.size ≤ w3.heap.size by omega) |>.above (by omega)) (Nat.le_refl _) (by simp)))).below⟩
    · have hsI : decide ((60 : Int) < (salt.size : Int)) = true := decide_eq_true (by omega)
      have hsN : decide (60 < salt.size) = true := decide_eq_true (by omega)
      go_enter Try.func7, Try.ntmps7
      go_wp2_with (first
        | (go_at_call 15; refine (madeLight_any _ _ _ _).mono ?_; rw [hmd]; rintro e w' ⟨rfl, rfl⟩)
        | (go_at_call 16; refine (awake20_any _).mono ?_; rintro e w1 ⟨rfl, hex⟩)
        | fail)
      go_ret
      exact ⟨rfl, hex.below⟩
  · have hmd : decide ((L.length : Int) ≤ 400) = false := decide_eq_false (by omega)
    go_enter Try.func7, Try.ntmps7
    go_wp2_with (first
      | (go_at_call 15; refine (madeLight_any _ _ _ _).mono ?_; rw [hmd]; rintro e w' ⟨rfl, rfl⟩)
      | (go_at_call 16; refine (awake20_any _).mono ?_; rintro e w1 ⟨rfl, hex⟩)
      | fail)
    go_ret
    exact ⟨rfl, hex.below⟩
end Go.Proofs.Ytfllcohnfboccaa

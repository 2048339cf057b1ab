/- law06.ForkRaw: the walk. No statement of the seat. -/
import Derived.Test.YtoeklgbajggndaaGreatMg18
import Derived.Test.YtoeklgbajggndaaGreatAwake06G
import Derived.Test.YtoeklgbajggndaaGreatMg07
import Derived.Test.YtoeklgbajggndaaGreatSeal03G
import Derived.Deep.RegionHeld3
import Derived.Deep.MidRow
namespace Go.Proofs.YtoeklgbajggndaaGreat
open Go.RowKit Go.Sort
attribute [local go_sem ↓] rowLoad_st rowLoad_fork rowStore_fork

/-- The sealing, its answer in the words of the sealed statement. -/
theorem seal03_as {P : Nat → Prop} (s x : St) (hx : x = sealS s) (lo po : Option Addr) (ln lc pn pc : Nat) (w : World) (hs : Lies P w (s, ⟨lo, ln, lc⟩, ⟨po, pn, pc⟩)) (ht : Tame s) :
    Calls Tryz.prog 7 #[.agg (rSt s lo ln lc po pn pc)] w fun e w' => ∃ (la : Option Addr) (na ca : Nat) (pa : Option Addr) (ma qa : Nat), e = .returned (.agg (rSt x la na ca pa ma qa)) ∧ Lies (fun b => w.heap.size ≤ b) w' (x, ⟨la, na, ca⟩, ⟨pa, ma, qa⟩) ∧ Ex w.heap.size none w w' := by
  subst hx
  exact seal03_any s lo po ln lc pn pc w hs ht
theorem sealS_tame {s : St} (h : Tame s) : Tame (sealS s) := ⟨h.list, h.pins, h.prev, h.body, h.digs⟩

set_option maxHeartbeats 16000000 in
set_option maxRecDepth 100000 in
theorem forkRaw_walk {P R : Nat → Prop} (s t : St) (lo po : Option Addr) (ln lc pn pc : Nat) (lb pb : Option Addr) (nb cb mp cq : Nat) (v : Value) (xs : List UInt8) (w : World) (hs : Lies P w (s, ⟨lo, ln, lc⟩, ⟨po, pn, pc⟩)) (ht : Lies P w (t, ⟨lb, nb, cb⟩, ⟨pb, mp, cq⟩)) (hts : lightF s = true → Tame s) (htt : lightF t = true → Tame t) (hls : s.list.length ≤ 9223372036854775807 ∧ s.pins.length ≤ 9223372036854775807) (hlt : t.list.length ≤ 9223372036854775807 ∧ t.pins.length ≤ 9223372036854775807) (hv : SlC R w v xs) (hm : xs.length ≤ 9223372036854775807) :
    Calls Tryz.prog 3 #[.agg (rFk s lo ln lc po pn pc t lb nb cb pb mp cq), v] w fun e w' => e = .returned (.bool true) ∧ Below w.heap.size w w' := by
  obtain ⟨w0, hw0⟩ : ∃ w0 : World, w0 = w.alloc (.cells (rFk s lo ln lc po pn pc t lb nb cb pb mp cq) 29) := ⟨_, rfl⟩
  have hz0 : w.heap.size < w0.heap.size := by rw [hw0]; simp
  have HE0 : Hid (Ex w.heap.size none w w0) := by rw [hw0]; exact Ex.new w _
  have HB0 : Hid (∀ w', Ex w0.heap.size none w0 w' → w'.heap[w.heap.size]? = some (.cells (rFk s lo ln lc po pn pc t lb nb cb pb mp cq) 29 (0, 0))) := Lib.hid (fun w' h => (h.block w.heap.size hz0 (by simp)).trans (by rw [hw0]; exact heap_alloc_new w _))
  have HL1 : Hid (∀ w', Ex w0.heap.size none w0 w' → (rowLoad 27 ⟨w.heap.size, 0, none⟩).run Tryz.prog w' = .ok (.agg (rSt s lo ln lc po pn pc)) w' ∧ (rowLoad 27 ⟨w.heap.size, 13, none⟩).run Tryz.prog w' = .ok (.agg (rSt t lb nb cb pb mp cq)) w') := Lib.hid (fun w' h => by
    have hb := HB0.out w' h
    have r1 : w'.rangeAt w.heap.size 0 [.int .i64 s.author, .int .i64 s.number, .string s.prev, .int .i64 s.time, .int .i64 s.kind, .int .i64 s.a, .int .i64 s.b, .int .i64 s.c, .slice lo ln lc, .slice po pn pc, .string s.body, .int .i64 s.key, .string s.dig] := fun j v hv => by
      rw [cell_of_row _ _ _ _ _ _ hb]
      match j, hv with
      | 0, hv | 1, hv | 2, hv | 3, hv | 4, hv | 5, hv | 6, hv | 7, hv | 8, hv | 9, hv | 10, hv | 11, hv | 12, hv => exact hv
      | j + 13, hv => exact absurd (List.getElem?_eq_some_iff.1 hv).1 (by simp)
    have r2 : w'.rangeAt w.heap.size 13 [.int .i64 t.author, .int .i64 t.number, .string t.prev, .int .i64 t.time, .int .i64 t.kind, .int .i64 t.a, .int .i64 t.b, .int .i64 t.c, .slice lb nb cb, .slice pb mp cq, .string t.body, .int .i64 t.key, .string t.dig] := fun j v hv => by
      rw [cell_of_row _ _ _ _ _ _ hb]
      match j, hv with
      | 0, hv | 1, hv | 2, hv | 3, hv | 4, hv | 5, hv | 6, hv | 7, hv | 8, hv | 9, hv | 10, hv | 11, hv | 12, hv => exact hv
      | j + 13, hv => exact absurd (List.getElem?_eq_some_iff.1 hv).1 (by simp)
    exact ⟨run_loadVar_mid w' w.heap.size 0 27 [.int .i64 s.author, .int .i64 s.number, .string s.prev, .int .i64 s.time, .int .i64 s.kind, .int .i64 s.a, .int .i64 s.b, .int .i64 s.c, .slice lo ln lc, .slice po pn pc, .string s.body, .int .i64 s.key, .string s.dig] _ r1 Tryz.underlying27 rfl Tryz.sizeStm, run_loadVar_mid w' w.heap.size 13 27 [.int .i64 t.author, .int .i64 t.number, .string t.prev, .int .i64 t.time, .int .i64 t.kind, .int .i64 t.a, .int .i64 t.b, .int .i64 t.c, .slice lb nb cb, .slice pb mp cq, .string t.body, .int .i64 t.key, .string t.dig] _ r2 Tryz.underlying27 rfl Tryz.sizeStm⟩)
  have HK : Hid (∀ w', Ex w0.heap.size none w0 w' → ∀ b, b < w.heap.size → w'.heap[b]? = w.heap[b]?) := Lib.hid (fun w' h b hb => (h.block b (by omega) (by simp)).trans (HE0.out.block b hb (by simp)))
  have HLX : Hid (∀ w', Ex w0.heap.size none w0 w' → Lies P w' (s, ⟨lo, ln, lc⟩, ⟨po, pn, pc⟩) ∧ Lies P w' (t, ⟨lb, nb, cb⟩, ⟨pb, mp, cq⟩)) := Lib.hid (fun w' h => ⟨hs.keep fun b _ hb => HK.out w' h b hb, ht.keep fun b _ hb => HK.out w' h b hb⟩)
  have HV : Hid (∀ w', Ex w0.heap.size none w0 w' → SlC R w' v xs) := Lib.hid (fun w' h => hv.keep fun b _ hb => HK.out w' h b hb)
  have HLS := Lib.hid hls
  have HLT := Lib.hid hlt
  obtain ⟨bs, hbs⟩ : ∃ b, b = lightF s := ⟨_, rfl⟩
  obtain ⟨bt, hbt⟩ : ∃ b, b = lightF t := ⟨_, rfl⟩
  have HC1 : Hid (∀ w', Ex w0.heap.size none w0 w' → Calls Tryz.prog 5 #[.agg (rSt s lo ln lc po pn pc)] w' fun e w'' => e = .returned (.bool bs) ∧ Ex w'.heap.size none w' w'') := Lib.hid (fun w' h => by rw [hbs]; exact light06_any s lo po ln lc pn pc w' (HLX.out w' h).1 HLS.out.1 HLS.out.2)
  have HC2 : Hid (∀ w', Ex w0.heap.size none w0 w' → Calls Tryz.prog 5 #[.agg (rSt t lb nb cb pb mp cq)] w' fun e w'' => e = .returned (.bool bt) ∧ Ex w'.heap.size none w' w'') := Lib.hid (fun w' h => by rw [hbt]; exact light06_any t lb pb nb cb mp cq w' (HLX.out w' h).2 HLT.out.1 HLT.out.2)
  have HTS : Hid (bs = true → Tame s) := Lib.hid (fun h => hts (by rw [← hbs]; exact h))
  have HTT : Hid (bt = true → Tame t) := Lib.hid (fun h => htt (by rw [← hbt]; exact h))
  obtain ⟨ao, cap, rfl, hc, hx⟩ := hv
  obtain ⟨m, hml⟩ : ∃ m, m = xs.length := ⟨_, rfl⟩
  have HML := Lib.hid hml
  obtain ⟨b5, hb5⟩ : ∃ b, b = decide ((500 : Int) < (m : Int)) := ⟨_, rfl⟩
  have h5 := hb5.symm
  have H5 : Hid (b5 = false → xs.length ≤ 500) := Lib.hid (fun h => by
    rw [h] at hb5
    have := of_decide_eq_false hb5.symm
    omega)
  rw [← hml] at HV hm ⊢
  obtain ⟨l1, l2⟩ := HL1.out _ (Ex.refl _ _ _)
  clear hs ht hts htt hls hlt hc hx hbs hbt hb5 hml
  cases bs
  · go_enter Tryz.func3, Tryz.ntmps3
    go_upto_region 1 with (fail)
    rw [← hw0]
    clear hw0
    go_wp2_with (first
      | (go_at_call 5
         fail_if_success (first | have _x := HX1 | fail)
         refine (HC1.out _ (Ex.refl _ _ _)).mono ?_
         rintro e w1 ⟨rfl, hex⟩
         have HX1 : Hid (Ex w0.heap.size none w0 w1) := Lib.hid hex
         clear hex l1 l2
         obtain ⟨l1, l2⟩ := HL1.out _ HX1.out)
      | (go_at_call 5
         refine (HC2.out _ HX1.out).mono ?_
         rintro e w2 ⟨rfl, hex⟩
         have HX2 : Hid (Ex w0.heap.size none w0 w2) := Lib.hid (HX1.out.trans hex HX1.out.size (by simp))
         clear hex l1 l2
         obtain ⟨l1, l2⟩ := HL1.out _ HX2.out)
      | (go_at_call 6
         refine (awake06_any w1).mono ?_
         rintro e w9 ⟨rfl, hex⟩
         have HX9 : Hid (Ex w0.heap.size none w0 w9) := Lib.hid (HX1.out.trans hex HX1.out.size (by simp))
         clear hex)
      | fail)
    go_ret
    exact ⟨rfl, (HE0.out.trans HX9.out (by omega) (by simp)).below⟩
  · cases bt
    · go_enter Tryz.func3, Tryz.ntmps3
      go_upto_region 1 with (fail)
      rw [← hw0]
      clear hw0
      go_wp2_with (first
        | (go_at_call 5
           fail_if_success (first | have _x := HX1 | fail)
           refine (HC1.out _ (Ex.refl _ _ _)).mono ?_
           rintro e w1 ⟨rfl, hex⟩
           have HX1 : Hid (Ex w0.heap.size none w0 w1) := Lib.hid hex
           clear hex l1 l2
           obtain ⟨l1, l2⟩ := HL1.out _ HX1.out)
        | (go_at_call 5
           refine (HC2.out _ HX1.out).mono ?_
           rintro e w2 ⟨rfl, hex⟩
           have HX2 : Hid (Ex w0.heap.size none w0 w2) := Lib.hid (HX1.out.trans hex HX1.out.size (by simp))
           clear hex l1 l2
           obtain ⟨l1, l2⟩ := HL1.out _ HX2.out)
        | (go_at_call 6
           refine (awake06_any w2).mono ?_
           rintro e w9 ⟨rfl, hex⟩
           have HX9 : Hid (Ex w0.heap.size none w0 w9) := Lib.hid (HX2.out.trans hex HX2.out.size (by simp))
           clear hex)
        | fail)
      go_ret
      exact ⟨rfl, (HE0.out.trans HX9.out (by omega) (by simp)).below⟩
    · cases b5
      · obtain ⟨x, hx⟩ : ∃ x, x = sealS s := ⟨_, rfl⟩
        obtain ⟨y, hy⟩ : ∃ y, y = sealS t := ⟨_, rfl⟩
        have HM5 : Hid (xs.length ≤ 500) := Lib.hid (H5.out rfl)
        have HTX : Hid ((Tame s ∧ Tame t) ∧ Tame x ∧ Tame y) := Lib.hid ⟨⟨HTS.out rfl, HTT.out rfl⟩, by rw [hx]; exact sealS_tame (HTS.out rfl), by rw [hy]; exact sealS_tame (HTT.out rfl)⟩
        go_enter Tryz.func3, Tryz.ntmps3
        go_upto_region 1 with (fail)
        rw [← hw0]
        clear hw0
        go_upto_region 3 with (first
          | (go_at_call 5
             fail_if_success (first | have _x := HX1 | fail)
             refine (HC1.out _ (Ex.refl _ _ _)).mono ?_
             rintro e w1 ⟨rfl, hex⟩
             have HX1 : Hid (Ex w0.heap.size none w0 w1) := Lib.hid hex
             clear hex l1 l2
             obtain ⟨l1, l2⟩ := HL1.out _ HX1.out)
          | (go_at_call 5
             refine (HC2.out _ HX1.out).mono ?_
             rintro e w2 ⟨rfl, hex⟩
             have HX2 : Hid (Ex w0.heap.size none w0 w2) := Lib.hid (HX1.out.trans hex HX1.out.size (by simp))
             clear hex l1 l2
             obtain ⟨l1, l2⟩ := HL1.out _ HX2.out)
          | fail)
        have HE1 : Hid (∀ w', Ex w2.heap.size none w2 w' → Calls Tryz.prog 7 #[.agg (rSt s lo ln lc po pn pc)] w' fun e w'' => ∃ (la : Option Addr) (na ca : Nat) (pa : Option Addr) (ma qa : Nat), e = .returned (.agg (rSt x la na ca pa ma qa)) ∧ Lies (fun b => w'.heap.size ≤ b) w'' (x, ⟨la, na, ca⟩, ⟨pa, ma, qa⟩) ∧ Ex w'.heap.size none w' w'') := Lib.hid (fun w' h => seal03_as s x hx lo po ln lc pn pc w' (HLX.out w' (HX2.out.trans h HX2.out.size (by simp))).1 HTX.out.1.1)
        have HE2 : Hid (∀ w', Ex w2.heap.size none w2 w' → Calls Tryz.prog 7 #[.agg (rSt t lb nb cb pb mp cq)] w' fun e w'' => ∃ (ld : Option Addr) (nd cd : Nat) (pd : Option Addr) (md qd : Nat), e = .returned (.agg (rSt y ld nd cd pd md qd)) ∧ Lies (fun b => w'.heap.size ≤ b) w'' (y, ⟨ld, nd, cd⟩, ⟨pd, md, qd⟩) ∧ Ex w'.heap.size none w' w'') := Lib.hid (fun w' h => seal03_as t y hy lb pb nb cb mp cq w' (HLX.out w' (HX2.out.trans h HX2.out.size (by simp))).2 HTX.out.1.2)
        have HLL : Hid (∀ w', Ex w2.heap.size none w2 w' → (rowLoad 27 ⟨w.heap.size, 0, none⟩).run Tryz.prog w' = .ok (.agg (rSt s lo ln lc po pn pc)) w' ∧ (rowLoad 27 ⟨w.heap.size, 13, none⟩).run Tryz.prog w' = .ok (.agg (rSt t lb nb cb pb mp cq)) w') := Lib.hid (fun w' h => HL1.out w' (HX2.out.trans h HX2.out.size (by simp)))
        clear hx hy HC1 HC2 HTS HTT l1 l2
        obtain ⟨l1, l2⟩ := HLL.out _ (Ex.refl _ _ _)
        go_region_held3 (fun w' => (rowLoad 27 ⟨w.heap.size, 0, none⟩).run Tryz.prog w' = .ok (.agg (rSt s lo ln lc po pn pc)) w' ∧ (rowLoad 27 ⟨w.heap.size, 13, none⟩).run Tryz.prog w' = .ok (.agg (rSt t lb nb cb pb mp cq)) w')
          (first | exact HLL.out _ HZ.out.2.2.1 | exact HLL.out _ (by repeat (first | exact Ex.refl _ _ _ | exact HXb.out | exact HXa.out | refine Ex.drew ?_ | refine Ex.alloc ?_ (by first | omega | (simp; done) | (simp; omega)) _)))
          (first
            | (go_at_call 7
               fail_if_success (first | have _x := HXa | fail)
               refine (HE1.out _ (by repeat (first | exact Ex.refl _ _ _ | refine Ex.drew ?_ | refine Ex.alloc ?_ (by first | omega | (simp; done) | (simp; omega)) _))).mono ?_
               rintro e wa ⟨la, na, ca, pa, ma, qa, rfl, hls, hex⟩
               have HXa : Hid (Ex w2.heap.size none w2 wa) := Lib.hid ((by repeat (first | exact Ex.refl _ _ _ | refine Ex.drew ?_ | refine Ex.alloc ?_ (by first | omega | (simp; done) | (simp; omega)) _) : Ex w2.heap.size none w2 _).trans hex (by first | omega | (simp; done) | (simp; omega)) (by simp))
               have hza : w2.heap.size ≤ wa.heap.size := HXa.out.size
               have HLa : Hid (Lies (fun _ => True) wa (x, ⟨la, na, ca⟩, ⟨pa, ma, qa⟩)) := Lib.hid (hls.mono fun _ _ _ => trivial)
               try (have HLo : Hid (Lies (fun b => w2.heap.size < b) wa (x, ⟨la, na, ca⟩, ⟨pa, ma, qa⟩)) := Lib.hid (hls.mono fun b hb _ => by simp only [World.size_alloc, World.size_drew] at hb; omega))
               try (have HB : Hid (wa.heap[w2.heap.size]? = some (.cells zFk 29 (0, 0)) ∧ w2.heap.size < wa.heap.size) := Lib.hid ⟨(hex.block w2.heap.size (by simp; done) (by simp)).trans (heap_alloc_new w2 _), Nat.lt_of_lt_of_le (by simp; done) hex.size⟩)
               clear hls hex)
            | (go_at_call 7
               refine (HE2.out _ (by repeat (first | exact HXa.out | refine Ex.drew ?_ | refine Ex.alloc ?_ (by first | omega | (simp; done) | (simp; omega)) _))).mono ?_
               rintro e wb ⟨ld, nd, cd, pd, md, qd, rfl, hls, hex⟩
               have HXb : Hid (Ex w2.heap.size none w2 wb) := Lib.hid ((by repeat (first | exact HXa.out | refine Ex.drew ?_ | refine Ex.alloc ?_ (by first | omega | (simp; done) | (simp; omega)) _) : Ex w2.heap.size none w2 _).trans hex (by first | exact hza | (simp; omega)) (by simp))
               have HLb : Hid (Lies (fun _ => True) wb (y, ⟨ld, nd, cd⟩, ⟨pd, md, qd⟩)) := Lib.hid (hls.mono fun _ _ _ => trivial)
               have HLc : Hid (Lies (fun _ => True) wb (x, ⟨la, na, ca⟩, ⟨pa, ma, qa⟩)) := Lib.hid (HLa.out.keep fun b _ hb => by first | exact hex.block b hb (by simp) | exact (hex.block b (by first | omega | (simp; omega)) (by simp)).trans ((Ex.new wa _).block b hb (by simp)))
               have hzb : w2.heap.size ≤ wb.heap.size := HXb.out.size
               have hzab : wa.heap.size ≤ wb.heap.size := by have := hex.size; first | omega | (simp at this; omega)
               first
                 | (have HG : Hid (wb.heap[w2.heap.size]? = some (.cells zFk 29 (0, 0))) := Lib.hid ((hex.block w2.heap.size (by have := HB.out.2; omega) (by simp)).trans HB.out.1)
                    obtain ⟨g, hg⟩ : ∃ g, g = w2.heap.size := ⟨_, rfl⟩
                    obtain ⟨wy, hy⟩ : ∃ wy, wy = wb := ⟨_, rfl⟩
                    have hst := run_rowStore (P := Tryz.prog) wb w2.heap.size 29 29 zFk (rFk x la na ca pa ma qa y ld nd cd pd md qd) HG.out Tryz.sizeFork rfl (by simp [Value.oneCell'])
                    have HXY : Hid (Ex wb.heap.size none wb wy) := Lib.hid (by rw [hy]; exact Ex.refl _ _ _)
                    have HGY : Hid (wy.heap[g]? = some (.cells zFk 29 (0, 0)) ∧ g < wy.heap.size ∧ w2.heap.size ≤ g) := Lib.hid (by rw [hy, hg]; exact ⟨HG.out, by have := HB.out.2; omega, Nat.le_refl _⟩)
                    have HLG : Hid (Lies (fun b => b ≠ g) wb (x, ⟨la, na, ca⟩, ⟨pa, ma, qa⟩) ∧ Lies (fun b => b ≠ g) wb (y, ⟨ld, nd, cd⟩, ⟨pd, md, qd⟩)) := Lib.hid ⟨(HLo.out.keep fun b _ hb => hex.block b hb (by simp)).mono fun b hb _ => by rw [hg]; omega, hls.mono fun b hb _ => by rw [hg]; have := HB.out.2; omega⟩)
                 | (have HG : Hid (wb.heap[wa.heap.size]? = some (.cells zFk 29 (0, 0)) ∧ wa.heap.size < wb.heap.size) := Lib.hid ⟨(hex.block wa.heap.size (by simp; done) (by simp)).trans (heap_alloc_new wa _), Nat.lt_of_lt_of_le (by simp; done) hex.size⟩
                    obtain ⟨g, hg⟩ : ∃ g, g = wa.heap.size := ⟨_, rfl⟩
                    obtain ⟨wy, hy⟩ : ∃ wy, wy = wb := ⟨_, rfl⟩
                    have hst := run_rowStore (P := Tryz.prog) wb wa.heap.size 29 29 zFk (rFk x la na ca pa ma qa y ld nd cd pd md qd) HG.out.1 Tryz.sizeFork rfl (by simp [Value.oneCell'])
                    have HXY : Hid (Ex wb.heap.size none wb wy) := Lib.hid (by rw [hy]; exact Ex.refl _ _ _)
                    have HGY : Hid (wy.heap[g]? = some (.cells zFk 29 (0, 0)) ∧ g < wy.heap.size ∧ w2.heap.size ≤ g) := Lib.hid (by rw [hy, hg]; exact ⟨HG.out.1, HG.out.2, hza⟩)
                    have HLG : Hid (Lies (fun b => b ≠ g) wb (x, ⟨la, na, ca⟩, ⟨pa, ma, qa⟩) ∧ Lies (fun b => b ≠ g) wb (y, ⟨ld, nd, cd⟩, ⟨pd, md, qd⟩)) := Lib.hid ⟨(HLa.out.mono (P' := fun b => b ≠ g) fun b _ hlt => by rw [hg]; omega).keep fun b _ hb => (hex.block b (by simp; omega) (by simp)).trans ((Ex.new wa _).block b hb (by simp)), hls.mono fun b hb _ => by rw [hg]; simp at hb; omega⟩)
                 | (obtain ⟨g, hg⟩ : ∃ g, g = wb.heap.size := ⟨_, rfl⟩
                    obtain ⟨wy, hy⟩ : ∃ wy, wy = wb.alloc (.cells zFk 29) := ⟨_, rfl⟩
                    have hst := run_rowStore (P := Tryz.prog) (wb.alloc (.cells zFk 29)) wb.heap.size 29 29 zFk (rFk x la na ca pa ma qa y ld nd cd pd md qd) (heap_alloc_new wb _) Tryz.sizeFork rfl (by simp [Value.oneCell'])
                    have HXY : Hid (Ex wb.heap.size none wb wy) := Lib.hid (by rw [hy]; exact Ex.new wb _)
                    have HGY : Hid (wy.heap[g]? = some (.cells zFk 29 (0, 0)) ∧ g < wy.heap.size ∧ w2.heap.size ≤ g) := Lib.hid (by rw [hy, hg]; exact ⟨heap_alloc_new wb _, by simp, hzb⟩)
                    have HLG : Hid (Lies (fun b => b ≠ g) wb (x, ⟨la, na, ca⟩, ⟨pa, ma, qa⟩) ∧ Lies (fun b => b ≠ g) wb (y, ⟨ld, nd, cd⟩, ⟨pd, md, qd⟩)) := Lib.hid ⟨HLc.out.mono fun b _ hlt => by rw [hg]; omega, HLb.out.mono fun b _ hlt => by rw [hg]; omega⟩)
               obtain ⟨wz, hwz⟩ : ∃ wz, wz = wy.setRow g (rFk x la na ca pa ma qa y ld nd cd pd md qd) := ⟨_, rfl⟩
               rw [← hy, ← hg, ← hwz, hg, hy] at hst
               have HGE : Hid (g = _) := Lib.hid hg
               have HZ : Hid (wz.heap[g]? = some (.cells (rFk x la na ca pa ma qa y ld nd cd pd md qd) 29 (0, 0)) ∧ g < wz.heap.size ∧ Ex w2.heap.size none w2 wz ∧ (Lies (fun _ => True) wz (x, ⟨la, na, ca⟩, ⟨pa, ma, qa⟩) ∧ Lies (fun _ => True) wz (y, ⟨ld, nd, cd⟩, ⟨pd, md, qd⟩))) := Lib.hid (by
                 have hsr : Ex wy.heap.size (some g) wy wz := by rw [hwz]; exact (Ex.refl _ _ _).setRow _ _ (.inl rfl)
                 have hk : ∀ b, b ≠ g → b < wb.heap.size → wz.heap[b]? = wb.heap[b]? := fun b hb hlt => (hsr.block b (by have := HXY.out.size; omega) (fun e => hb (Option.some.inj e))).trans (HXY.out.block b hlt (by simp))
                 refine ⟨by rw [hwz]; exact setRow_heap _ _ _ _ _ _ HGY.out.1, by have := hsr.size; have := HGY.out.2.1; omega, by rw [hwz]; exact (HXb.out.trans HXY.out hzb (by simp)).setRow _ _ (.inr HGY.out.2.2), (HLG.out.1.keep fun b hb hlt => hk b hb hlt).mono fun _ _ _ => trivial, (HLG.out.2.keep fun b hb hlt => hk b hb hlt).mono fun _ _ _ => trivial⟩)
               clear hls hex hwz hg hy)
            | fail)
        all_goals
          rw [← HGE.out]
          clear hst HE1 HE2 HLL l1 l2 HL1
          try clear HB
          try clear HLo
          have HXz : Hid (Ex w0.heap.size none w0 wz) := Lib.hid (HX2.out.trans HZ.out.2.2.1 HX2.out.size (by simp))
          have HRR : Hid (∀ w', Ex wz.heap.size none wz w' → (rowLoad 29 ⟨w.heap.size, 0, none⟩).run Tryz.prog w' = .ok (.agg (rFk s lo ln lc po pn pc t lb nb cb pb mp cq)) w' ∧ (rowLoad 29 ⟨g, 0, none⟩).run Tryz.prog w' = .ok (.agg (rFk x la na ca pa ma qa y ld nd cd pd md qd)) w') := Lib.hid (fun w' h => ⟨run_rowLoad (P := Tryz.prog) w' w.heap.size 29 29 (rFk s lo ln lc po pn pc t lb nb cb pb mp cq) (0, 0) _ (HB0.out _ (HXz.out.trans h HXz.out.size (by simp))) Tryz.underlying29 rfl Tryz.sizeFork, run_rowLoad (P := Tryz.prog) w' g 29 29 (rFk x la na ca pa ma qa y ld nd cd pd md qd) (0, 0) _ ((h.block g HZ.out.2.1 (by simp)).trans HZ.out.1) Tryz.underlying29 rfl Tryz.sizeFork⟩)
          have HA1 : Hid (∀ w', Ex wz.heap.size none wz w' → Calls Tryz.prog 8 #[.agg (rFk s lo ln lc po pn pc t lb nb cb pb mp cq), .slice ao m cap] w' fun e w'' => e = .returned (.bool true) ∧ Ex w'.heap.size none w' w'') := Lib.hid (fun w' h => by
            have h0 := HXz.out.trans h HXz.out.size (by simp)
            exact agree06_any s t lo po ln lc pn pc lb pb nb cb mp cq (.slice ao m cap) xs w' (HLX.out w' h0).1 (HLX.out w' h0).2 HTX.out.1.1 HTX.out.1.2 (HV.out w' h0) HM5.out)
          have HA2 : Hid (∀ w', Ex wz.heap.size none wz w' → Calls Tryz.prog 8 #[.agg (rFk x la na ca pa ma qa y ld nd cd pd md qd), .slice ao m cap] w' fun e w'' => e = .returned (.bool true) ∧ Ex w'.heap.size none w' w'') := Lib.hid (fun w' h => by
            have h0 := HXz.out.trans h HXz.out.size (by simp)
            have hl := HZ.out.2.2.2
            exact agree06_any x y la pa na ca ma qa ld pd nd cd md qd (.slice ao m cap) xs w' (hl.1.keep fun b _ hb => h.block b hb (by simp)) (hl.2.keep fun b _ hb => h.block b hb (by simp)) HTX.out.2.1 HTX.out.2.2 (HV.out w' h0) HM5.out)
          clear HLX HV HB0 HZ HLa HLb HLc HLG HXY HGY HTX
          generalize Value.agg (rFk s lo ln lc po pn pc t lb nb cb pb mp cq) = fa at *
          generalize Value.agg (rFk x la na ca pa ma qa y ld nd cd pd md qd) = fb at *
          obtain ⟨r1, r2⟩ := HRR.out _ (Ex.refl _ _ _)
          go_wp2_with (first
            | (go_at_call 6
               refine (awake06_any wz).mono ?_
               rintro e wp ⟨rfl, hex⟩
               have HXp : Hid (Ex wz.heap.size none wz wp) := Lib.hid hex
               clear hex r1 r2
               obtain ⟨r1, r2⟩ := HRR.out _ HXp.out)
            | (go_at_call 8
               fail_if_success (first | have _x := HXq | fail)
               refine (HA1.out _ HXp.out).mono ?_
               rintro e wq ⟨rfl, hex⟩
               have HXq : Hid (Ex wz.heap.size none wz wq) := Lib.hid (HXp.out.trans hex HXp.out.size (by simp))
               clear hex r1 r2
               obtain ⟨r1, r2⟩ := HRR.out _ HXq.out)
            | (go_at_call 8
               refine (HA2.out _ HXq.out).mono ?_
               rintro e wr ⟨rfl, hex⟩
               have HXr : Hid (Ex wz.heap.size none wz wr) := Lib.hid (HXq.out.trans hex HXq.out.size (by simp))
               clear hex)
            | fail)
          go_ret
          exact ⟨rfl, (HE0.out.trans (HXz.out.trans HXr.out HXz.out.size (by simp)) (by omega) (by simp)).below⟩
      · go_enter Tryz.func3, Tryz.ntmps3
        go_upto_region 1 with (fail)
        rw [← hw0]
        clear hw0
        go_wp2_with (first
          | (go_at_call 5
             fail_if_success (first | have _x := HX1 | fail)
             refine (HC1.out _ (Ex.refl _ _ _)).mono ?_
             rintro e w1 ⟨rfl, hex⟩
             have HX1 : Hid (Ex w0.heap.size none w0 w1) := Lib.hid hex
             clear hex l1 l2
             obtain ⟨l1, l2⟩ := HL1.out _ HX1.out)
          | (go_at_call 5
             refine (HC2.out _ HX1.out).mono ?_
             rintro e w2 ⟨rfl, hex⟩
             have HX2 : Hid (Ex w0.heap.size none w0 w2) := Lib.hid (HX1.out.trans hex HX1.out.size (by simp))
             clear hex l1 l2
             obtain ⟨l1, l2⟩ := HL1.out _ HX2.out)
          | (go_at_call 6
             refine (awake06_any w2).mono ?_
             rintro e w9 ⟨rfl, hex⟩
             have HX9 : Hid (Ex w0.heap.size none w0 w9) := Lib.hid (HX2.out.trans hex HX2.out.size (by simp))
             clear hex)
          | fail)
        go_ret
        exact ⟨rfl, (HE0.out.trans HX9.out (by omega) (by simp)).below⟩
end Go.Proofs.YtoeklgbajggndaaGreat

/- made.Dice.Spoil: a contract that tells bounds. No statement of the seat. -/
import Derived.Test.YtdmchekkcmjafaaChainDG
import Derived.StillTailTactics
import Derived.Deep.Cut
import Derived.Deep.CutRange
import Derived.Deep.CutBlock
import Derived.Test.YtdmchekkcmjafaaMg08
import Derived.Test.YtdmchekkcmjafaaMg09
namespace Go.Proofs.Ytdmchekkcmjafaa
open Go.RowKit Go.Sort

set_option maxHeartbeats 64000000 in
set_option maxRecDepth 100000 in
theorem spoilD_w {P : Nat → Prop} (N p : Nat) (v : Value) (l : List St) (A : Int → Prop) (T : Int) (w : World) (hd : DiceOK N w p) (hN : N ≤ w.heap.size) (hv : Sl stRep P w v l) (hl : ElL A T l) (hT : 0 ≤ T ∧ T ≤ 10000) (hm : l.length ≤ 50) :
    Calls Try.prog 42 #[.pointer (some ⟨p, 0, none⟩), v] w fun e w' => ∃ (ro : Option Addr) (rc k : Nat) (l' : List St), e = .returned (.slice ro k rc) ∧ (k = l'.length ∧ k ≤ l.length + 2) ∧ OwnS w' w.heap.size ro rc l' ∧ ElL A (T + 2) l' ∧ DiceOK N w' p ∧ Ex w.heap.size (some p) w w' := by
  have hp := hd.lt
  have HD0 := Lib.hid hd
  have HV := Lib.hid hv
  have HL0 := Lib.hid hl
  clear hd hv hl
  obtain ⟨n0, hn0⟩ : ∃ n0, n0 = l.length := ⟨_, rfl⟩
  have HN0 := Lib.hid hn0
  have HCL : Hid (Calls Try.prog 53 #[v] w fun e w' => ∃ ro rc, e = .returned (.slice ro n0 rc) ∧ OwnS w' w.heap.size ro rc l ∧ Ex w.heap.size none w w') := Lib.hid (by
    rw [hn0]; exact copyList_any v l w HV.out (by omega) HL0.out.tame.light)
  rw [← hn0] at hm ⊢
  clear hn0
  go_enter Try.func42, Try.ntmps42
  go_upto_region 2 with (first
    | (go_at_call 53
       refine HCL.out.mono ?_
       rintro e w1 ⟨ro, rc, rfl, hown, hex⟩
       have HO1 := Lib.hid hown
       have HE1 : Hid (DiceOK N w1 p ∧ Ex w.heap.size none w w1) := Lib.hid ⟨HD0.out.keep hex hN, hex⟩
       have hz1 : w.heap.size ≤ w1.heap.size := hex.size
       clear hown hex)
    | fail)
  by_cases h00 : n0 = 0
  · have h00I : (n0 : Int) = 0 := by omega
    have h00d : ((n0 : Int) == 0) = true := by simp [h00]
    have h00e : (n0 == 0) = true := by simp [h00]
    have HZ := Lib.hid h00
    clear h00 h00I
    go_wp2
    go_ret
    exact ⟨ro, rc, _, l, rfl, ⟨HN0.out, by omega⟩, HO1.out, HL0.out.le (by omega), HE1.out.1, HE1.out.2.weaken _⟩
  · have h00d : ((n0 : Int) == 0) = false := by simp [h00]
    have h00e : (n0 == 0) = false := by simp [h00]
    have h001 : 1 ≤ n0 := by omega
    clear h00
    go_wp2_with (first
      | (go_at_call 39
         refine (next_w N p 3 _ HE1.out.1 (by omega) (by omega)).mono ?_
         rintro e w2 ⟨m0, rfl, hm0, hd, hex⟩
         have HD2 : Hid (DiceOK N w2 p ∧ Ex w.heap.size (some p) w w2 ∧ OwnS w2 w.heap.size ro rc l) := Lib.hid ⟨hd, (HE1.out.2.weaken _).trans hex hz1 (fun q e _ => by cases e; rfl), HO1.out.keepP hex (Nat.le_refl _) (fun q e => by cases e; omega)⟩
         clear hd hex)
      | fail)
    go_loopw [5, 6, 7, 8] (fun v i u1 u2 wr => ∃ (m k : Nat) (ro : Option Addr) (rc : Nat) (l' : List St), i = .int .i64 m ∧ v = .slice ro k rc ∧ Hid (l'.length = k) ∧ m ≤ 2 ∧ 1 ≤ k ∧ k + m ≤ n0 + 2 ∧ Hid (ElL A (T + 2 - (m : Int)) l') ∧ Hid (OwnS wr w.heap.size ro rc l') ∧ Hid (DiceOK N wr p) ∧ Ex w.heap.size (some p) w wr) (fun _ i _ _ _ => (intOf i).toNat)
    case atStart => exact ⟨m0, n0, ro, rc, l, rfl, rfl, Lib.hid HN0.out.symm, by omega, h001, by omega, Lib.hid (HL0.out.le (by omega)), Lib.hid HD2.out.2.2, Lib.hid HD2.out.1, HD2.out.2.1⟩
    case round =>
      obtain ⟨m, k, ro, rc, l', rfl, rfl, HK, hm2, hk1, hkm, HEL, HO, HD, hex⟩ := hrel
      have hsz := hex.size
      by_cases h0 : 0 < m
      · have h0I : (0 : Int) < (m : Int) := by omega
        have h0d : decide (0 < m) = true := decide_eq_true h0
        go_upto_region 8 with (first
          | (go_at_call 39
             refine (next_w N p k _ HD.out (by omega) (by omega)).mono ?_
             rintro e w3 ⟨j, rfl, hj, hd, hex3⟩
             have HD3 : Hid (DiceOK N w3 p ∧ Ex wr.heap.size (some p) wr w3) := Lib.hid ⟨hd, hex3⟩
             have hz3 : wr.heap.size ≤ w3.heap.size := hex3.size
             have HO3 : Hid (OwnS w3 w.heap.size ro rc l') := Lib.hid (HO.out.keepP hex3 (Nat.le_refl _) (fun q e => by cases e; omega))
             clear hd hex3
             obtain ⟨b, off, s, ⟨lo, ln, lc⟩, ⟨po, pn, pc⟩, hro, _, hls, hr, HX⟩ := st_get HO3.out.at' j (by rw [HK.out]; omega)
             have HLS := Lib.hid hls
             have HES : Hid (A s.author ∧ El (T + 2 - (m : Int)) s) := Lib.hid (HEL.out s (List.mem_of_getElem? HX.out))
             have hc := st_at hr
             simp only [Sv.v] at hc
             obtain ⟨c0, c1, c2, c3, c4, c5, c6, c7, c8, c9, c10, c11, c12⟩ := hc
             clear hls hr
             subst hro)
          | (go_at_call 28
             refine (copy03_lit s lo po ln lc pn pc w3 HLS.out ⟨by have := HES.out.2.small.list; omega, by have := HES.out.2.small.pins; omega⟩).mono ?_
             rintro e w4 ⟨la, na, ca, pa, np, cp, rfl, hl4, hex4⟩
             have HL4 := Lib.hid hl4
             have HD4 : Hid (DiceOK N w4 p ∧ Ex wr.heap.size (some p) wr w4) := Lib.hid ⟨HD3.out.1.keep hex4 (by omega), HD3.out.2.trans hex4 hz3 (by simp)⟩
             have hz4 : w3.heap.size ≤ w4.heap.size := hex4.size
             clear hl4 hex4 c0 c1 c2 c3 c4 c5 c6 c7 c8 c9 c10 c11 c12)
          | fail)
        have hrox : (some ⟨b, off, none⟩ : Option Addr) = some ⟨b, off, none⟩ ∨ True := .inr trivial
        generalize (some ⟨b, off, none⟩ : Option Addr) = ro at *
        obtain ⟨wb, hwb⟩ : ∃ wb : World, wb = w4.alloc (.cells #[.int .i64 s.author, .int .i64 s.number, .string s.prev, .int .i64 s.time, .int .i64 s.kind, .int .i64 s.a, .int .i64 s.b, .int .i64 s.c, .slice la na ca, .slice pa np cp, .string s.body, .int .i64 s.key, .string s.dig] 30) := ⟨_, rfl⟩
        obtain ⟨lq, hlq⟩ : ∃ lq : Sv, lq = ⟨la, na, ca⟩ := ⟨_, rfl⟩
        obtain ⟨pq, hpq⟩ : ∃ pq : Sv, pq = ⟨pa, np, cp⟩ := ⟨_, rfl⟩
        have M1 : Hid (BoxD N p w4.heap.size w3.heap.size wr wb s lq pq) := Lib.hid (by
          rw [hwb, hlq, hpq]
          exact BoxD.start (r := s) (l := ⟨la, na, ca⟩) (q := ⟨pa, np, cp⟩) hp (by omega) HD4.out.1 HD4.out.2 hz3 ((HL4.out.mono' (P' := fun b => w3.heap.size ≤ b ∧ b ≠ w4.heap.size) fun b h hb => ⟨h, by omega⟩).keep fun b _ hb => (Ex.new w4 _).block b hb (by simp)))
        have hrg : ∀ b, rowOf ro = some b → b < wr.heap.size := fun b e => HO.out.t.row b e
        rw [← hwb]
        clear hwb hlq hpq hrox
        obtain ⟨⟨d0, d1, d2, d3, d4, d5, d6, d7, d8, d9, d10, d11, d12⟩, fz⟩ := M1.out.cells
        go_upto_block 2 with (first
          | (go_at_call 39
             (fail_if_success (first | have _x := M2 | fail))
             refine (next_w N p 5 _ M1.out.dice (by omega) (by omega)).mono ?_
             rintro e w40 ⟨sw, rfl, hsw, hd, hexx⟩
             have M2 := Lib.hid (M1.out.call hd hexx)
             clear hd hexx
             clear d0 d1 d2 d3 d4 d5 d6 d7 d8 d9 d10 d11 d12 fz
             obtain ⟨⟨d0, d1, d2, d3, d4, d5, d6, d7, d8, d9, d10, d11, d12⟩, fz⟩ := M2.out.cells)
          | fail)
        have HR0 : Hid (A s.author ∧ El (T + 2 - (m : Int)) s) := HES
        have HOZ : Hid (OwnZ w4.heap.size w.heap.size wr ro rc l') := Lib.hid (OwnZ.of HO.out (by omega))
        clear HO3 HLS HES HX
        go_cut [5, 8] from 17 to 109 (fun v u wx => ∃ (k5 : Nat) (ro5 : Option Addr) (rc5 : Nat) (l5 : List St) (r9 : St) (lq5 pq5 : Sv), v = .slice ro5 k5 rc5 ∧ Hid (l5.length = k5) ∧ 1 ≤ k5 ∧ k5 ≤ k ∧ Hid (ElL A (T + 2 - (m : Int)) l5) ∧ Hid (BoxD N p w4.heap.size w3.heap.size wr wx r9 lq5 pq5) ∧ Hid (A r9.author ∧ El (T + 2 - (m : Int) + 1) r9) ∧ Hid (OwnZ w4.heap.size w.heap.size wx ro5 rc5 l5))
        case first =>
          by_cases s0 : sw = 0
          · have s0d : ((sw : Int) == 0) = true := by simp [s0]
            have s0e : (sw == 0) = true := by simp [s0]
            clear s0
            have hst := HR0.out.2.time
            go_upto_region 14 with (fail)
            obtain ⟨w41, hw41⟩ : ∃ w41 : World, w41 = w40.setCell ⟨w4.heap.size, 3, none⟩ (.int .i64 (s.time + 1)) := ⟨_, rfl⟩
            obtain ⟨r1, hr1⟩ : ∃ r1 : St, r1 = { s with time := s.time + 1 } := ⟨_, rfl⟩
            have M3 : Hid (BoxD N p w4.heap.size w3.heap.size wr w41 r1 lq pq) := Lib.hid (by
              rw [hw41, hr1]
              exact M2.out.set 3 (.int .i64 (s.time + 1)) (r' := { s with time := s.time + 1 }) (l' := lq) (q' := pq) rfl (Lies.same M2.out.lies rfl rfl))
            have HR1 : Hid (A r1.author ∧ El (T + 2 - (m : Int) + 1) r1) := Lib.hid (by
              rw [hr1]
              exact ⟨HR0.out.1, ⟨⟨HR0.out.2.small.list, HR0.out.2.small.pins, HR0.out.2.small.prev, HR0.out.2.small.body, HR0.out.2.small.digs⟩, ⟨by show 0 ≤ s.time + 1; omega, by show s.time + 1 ≤ _; omega⟩, HR0.out.2.number⟩⟩)
            rw [← hw41]
            clear hw41 hr1 d0 d1 d2 d3 d4 d5 d6 d7 d8 d9 d10 d11 d12 fz
            obtain ⟨⟨d0, d1, d2, d3, d4, d5, d6, d7, d8, d9, d10, d11, d12⟩, fz⟩ := M3.out.cells
            go_still_tail 11, (by kernel_rfl)
            still_call ((mod_any _ _ _ (by omega)).mono fun e w' h => ⟨h.1, h.2.symm⟩)
            repeat still_step
            refine wpStill_nil ?_
            change wpList _ _ _ _ _ w41.drew
            go_wp2_with (fail)
            obtain ⟨w42, hw42⟩ : ∃ w42 : World, w42 = (w41.setCell ⟨w4.heap.size, 7, none⟩ (.int .i64 (max r1.c (wrap64 (r1.time * modI (wrap64 (2 - r1.kind)) 2))))).drew := ⟨_, rfl⟩
            obtain ⟨r2, hr2⟩ : ∃ r2 : St, r2 = { r1 with c := max r1.c (wrap64 (r1.time * modI (wrap64 (2 - r1.kind)) 2)) } := ⟨_, rfl⟩
            have M4 : Hid (BoxD N p w4.heap.size w3.heap.size wr w42 r2 lq pq) := Lib.hid (by
              rw [hw42, hr2]
              exact (M3.out.set 7 (.int .i64 (max r1.c (wrap64 (r1.time * modI (wrap64 (2 - r1.kind)) 2)))) (r' := { r1 with c := max r1.c (wrap64 (r1.time * modI (wrap64 (2 - r1.kind)) 2)) }) (l' := lq) (q' := pq) rfl (Lies.same M3.out.lies rfl rfl)).drew)
            have HR2 : A r2.author ∧ El (T + 2 - (m : Int) + 1) r2 := by rw [hr2]; exact ⟨HR1.out.1, ⟨⟨HR1.out.2.small.list, HR1.out.2.small.pins, HR1.out.2.small.prev, HR1.out.2.small.body, HR1.out.2.small.digs⟩, HR1.out.2.time, HR1.out.2.number⟩⟩
            have HR2 := Lib.hid HR2
            rw [← hw42]
            clear hw42 hr2 d0 d1 d2 d3 d4 d5 d6 d7 d8 d9 d10 d11 d12 fz
            all_goals go_meet
            all_goals exact ⟨k, ro, rc, l', r2, lq, pq, rfl, HK, by omega, by omega, Lib.hid (HEL.out), M4, Lib.hid (HR2.out), Lib.hid ((HOZ.out.keep fun b h1 h2 h3 => M4.out.ex.block b h3 (by simp; omega)))⟩
          · have s0d : ((sw : Int) == 0) = false := by simp; omega
            have s0e : (sw == 0) = false := by simp [s0]
            clear s0
            by_cases s1 : sw = 1
            · have s1d : ((sw : Int) == 1) = true := by simp [s1]
              have s1e : (sw == 1) = true := by simp [s1]
              clear s1
              have hsn := HR0.out.2.number
              have hwn : IntKind.i64.wrap (s.number + 1) = s.number + 1 := IntWalk.i64_in _ (by omega)
              go_upto_region 16 with (fail)
              go_region_with (first
                | (go_at_call 39
                   refine (next_w N p 3 _ M2.out.drew.dice (by omega) (by omega)).mono ?_
                   rintro e w41 ⟨k3, rfl, hk3, hd, hexx⟩
                   have M3 := Lib.hid (M2.out.drew.call hd hexx)
                   have hwk : IntKind.i64.wrap (s.number + 1 + (k3 : Int)) = s.number + 1 + (k3 : Int) := IntWalk.i64_in _ (by omega)
                   clear hd hexx
                   clear d0 d1 d2 d3 d4 d5 d6 d7 d8 d9 d10 d11 d12 fz
                   obtain ⟨⟨d0, d1, d2, d3, d4, d5, d6, d7, d8, d9, d10, d11, d12⟩, fz⟩ := M3.out.cells)
                | fail)
              all_goals (
                obtain ⟨w42, hw42⟩ : ∃ w42 : World, w42 = w41.setCell ⟨w4.heap.size, 1, none⟩ (.int .i64 (min (s.number + 1 + (k3 : Int)) 199)) := ⟨_, rfl⟩
                obtain ⟨r1, hr1⟩ : ∃ r1 : St, r1 = { s with number := (min (s.number + 1 + (k3 : Int)) 199) } := ⟨_, rfl⟩
                have M4 : Hid (BoxD N p w4.heap.size w3.heap.size wr w42 r1 lq pq) := Lib.hid (by
                  rw [hw42, hr1]
                  exact M3.out.set 1 (.int .i64 (min (s.number + 1 + (k3 : Int)) 199)) (r' := { s with number := (min (s.number + 1 + (k3 : Int)) 199) }) (l' := lq) (q' := pq) rfl (Lies.same M3.out.lies rfl rfl))
                have HR1 : Hid (A r1.author ∧ El (T + 2 - (m : Int) + 1) r1) := Lib.hid (by
                  rw [hr1]
                  exact ⟨HR0.out.1, ⟨⟨HR0.out.2.small.list, HR0.out.2.small.pins, HR0.out.2.small.prev, HR0.out.2.small.body, HR0.out.2.small.digs⟩, ⟨HR0.out.2.time.1, by have := HR0.out.2.time.2; show s.time ≤ _; omega⟩, ⟨by show 0 ≤ (min (s.number + 1 + (k3 : Int)) 199); omega, by show (min (s.number + 1 + (k3 : Int)) 199) ≤ 1000; omega⟩⟩⟩)
                rw [← hw42]
                clear hw42 hr1 d0 d1 d2 d3 d4 d5 d6 d7 d8 d9 d10 d11 d12 fz
                obtain ⟨⟨d0, d1, d2, d3, d4, d5, d6, d7, d8, d9, d10, d11, d12⟩, fz⟩ := M4.out.cells
                by_cases z1 : r1.prev.size = 32
                · have z1d : (((r1.prev.size : Nat) : Int) != 32) = false := by simp [z1]
                  clear z1
                  go_wp2_with (fail)
                  clear d0 d1 d2 d3 d4 d5 d6 d7 d8 d9 d10 d11 d12 fz
                  all_goals go_meet
                  all_goals exact ⟨k, ro, rc, l', r1, lq, pq, rfl, HK, by omega, by omega, Lib.hid (HEL.out), M4, Lib.hid (HR1.out), Lib.hid ((HOZ.out.keep fun b h1 h2 h3 => M4.out.ex.block b h3 (by simp; omega)))⟩
                · have z1d : (((r1.prev.size : Nat) : Int) != 32) = true := by simp; omega
                  clear z1
                  go_wp2_with (first
                    | (go_at_call 54
                       refine (digestD_w N p _ M4.out.dice (by have := M4.out.pos; have := M4.out.ex.size; omega)).mono ?_
                       rintro e w43 ⟨sg, rfl, hsg, hd, hexx⟩
                       have M5 := Lib.hid (M4.out.call hd hexx)
                       have HSG := Lib.hid hsg
                       clear hd hexx hsg
                       clear d0 d1 d2 d3 d4 d5 d6 d7 d8 d9 d10 d11 d12 fz
                       obtain ⟨⟨d0, d1, d2, d3, d4, d5, d6, d7, d8, d9, d10, d11, d12⟩, fz⟩ := M5.out.cells)
                    | fail)
                  obtain ⟨w44, hw44⟩ : ∃ w44 : World, w44 = w43.setCell ⟨w4.heap.size, 2, none⟩ (.string sg) := ⟨_, rfl⟩
                  obtain ⟨r2, hr2⟩ : ∃ r2 : St, r2 = { r1 with prev := sg } := ⟨_, rfl⟩
                  have M6 : Hid (BoxD N p w4.heap.size w3.heap.size wr w44 r2 lq pq) := Lib.hid (by
                    rw [hw44, hr2]
                    exact M5.out.set 2 (.string sg) (r' := { r1 with prev := sg }) (l' := lq) (q' := pq) rfl (Lies.same M5.out.lies rfl rfl))
                  have HRr2 : Hid (A r2.author ∧ El (T + 2 - (m : Int) + 1) r2) := Lib.hid (by
                    rw [hr2]
                    exact ⟨HR1.out.1, ⟨⟨HR1.out.2.small.list, HR1.out.2.small.pins, by show sg.size ≤ _; have := HSG.out; omega, HR1.out.2.small.body, HR1.out.2.small.digs⟩, ⟨HR1.out.2.time.1, by have := HR1.out.2.time.2; show r1.time ≤ _; omega⟩, HR1.out.2.number⟩⟩)
                  rw [← hw44]
                  clear hw44 hr2 d0 d1 d2 d3 d4 d5 d6 d7 d8 d9 d10 d11 d12 fz
                  all_goals go_meet
                  all_goals exact ⟨k, ro, rc, l', r2, lq, pq, rfl, HK, by omega, by omega, Lib.hid (HEL.out), M6, Lib.hid (HRr2.out), Lib.hid ((HOZ.out.keep fun b h1 h2 h3 => M6.out.ex.block b h3 (by simp; omega)))⟩
              )
            · have s1d : ((sw : Int) == 1) = false := by simp; omega
              have s1e : (sw == 1) = false := by simp [s1]
              clear s1
              by_cases s2 : sw = 2
              · have s2d : ((sw : Int) == 2) = true := by simp [s2]
                have s2e : (sw == 2) = true := by simp [s2]
                clear s2
                have hst := HR0.out.2.time
                go_wp2_with (fail)
                obtain ⟨w41, hw41⟩ : ∃ w41 : World, w41 = w40.setCell ⟨w4.heap.size, 3, none⟩ (.int .i64 (max 0 (s.time - 30))) := ⟨_, rfl⟩
                obtain ⟨r1, hr1⟩ : ∃ r1 : St, r1 = { s with time := (max 0 (s.time - 30)) } := ⟨_, rfl⟩
                have M3 : Hid (BoxD N p w4.heap.size w3.heap.size wr w41 r1 lq pq) := Lib.hid (by
                  rw [hw41, hr1]
                  exact M2.out.set 3 (.int .i64 (max 0 (s.time - 30))) (r' := { s with time := (max 0 (s.time - 30)) }) (l' := lq) (q' := pq) rfl (Lies.same M2.out.lies rfl rfl))
                have HR1 : Hid (A r1.author ∧ El (T + 2 - (m : Int) + 1) r1) := Lib.hid (by
                  rw [hr1]
                  exact ⟨HR0.out.1, ⟨⟨HR0.out.2.small.list, HR0.out.2.small.pins, HR0.out.2.small.prev, HR0.out.2.small.body, HR0.out.2.small.digs⟩, ⟨by show 0 ≤ (max 0 (s.time - 30)); omega, by show (max 0 (s.time - 30)) ≤ _; omega⟩, HR0.out.2.number⟩⟩)
                rw [← hw41]
                clear hw41 hr1 d0 d1 d2 d3 d4 d5 d6 d7 d8 d9 d10 d11 d12 fz
                all_goals go_meet
                all_goals exact ⟨k, ro, rc, l', r1, lq, pq, rfl, HK, by omega, by omega, Lib.hid (HEL.out), M3, Lib.hid (HR1.out), Lib.hid ((HOZ.out.keep fun b h1 h2 h3 => M3.out.ex.block b h3 (by simp; omega)))⟩
              · have s2d : ((sw : Int) == 2) = false := by simp; omega
                have s2e : (sw == 2) = false := by simp [s2]
                clear s2
                by_cases s3 : sw = 3
                · have s3d : ((sw : Int) == 3) = true := by simp [s3]
                  have s3e : (sw == 3) = true := by simp [s3]
                  clear s3
                  by_cases z1 : 0 < s.number
                  · have z1d : decide (0 < s.number) = true := decide_eq_true z1
                    go_wp2_with (first
                      | (go_at_call 54
                         refine (digestD_w N p _ M2.out.dice (by have := M2.out.pos; have := M2.out.ex.size; omega)).mono ?_
                         rintro e w43 ⟨sg, rfl, hsg, hd, hexx⟩
                         have M5 := Lib.hid (M2.out.call hd hexx)
                         have HSG := Lib.hid hsg
                         clear hd hexx hsg
                         clear d0 d1 d2 d3 d4 d5 d6 d7 d8 d9 d10 d11 d12 fz
                         obtain ⟨⟨d0, d1, d2, d3, d4, d5, d6, d7, d8, d9, d10, d11, d12⟩, fz⟩ := M5.out.cells)
                      | fail)
                    obtain ⟨w44, hw44⟩ : ∃ w44 : World, w44 = w43.setCell ⟨w4.heap.size, 2, none⟩ (.string sg) := ⟨_, rfl⟩
                    obtain ⟨r2, hr2⟩ : ∃ r2 : St, r2 = { s with prev := sg } := ⟨_, rfl⟩
                    have M6 : Hid (BoxD N p w4.heap.size w3.heap.size wr w44 r2 lq pq) := Lib.hid (by
                      rw [hw44, hr2]
                      exact M5.out.set 2 (.string sg) (r' := { s with prev := sg }) (l' := lq) (q' := pq) rfl (Lies.same M5.out.lies rfl rfl))
                    have HRr2 : Hid (A r2.author ∧ El (T + 2 - (m : Int) + 1) r2) := Lib.hid (by
                      rw [hr2]
                      exact ⟨HR0.out.1, ⟨⟨HR0.out.2.small.list, HR0.out.2.small.pins, by show sg.size ≤ _; have := HSG.out; omega, HR0.out.2.small.body, HR0.out.2.small.digs⟩, ⟨HR0.out.2.time.1, by have := HR0.out.2.time.2; show s.time ≤ _; omega⟩, HR0.out.2.number⟩⟩)
                    rw [← hw44]
                    clear hw44 hr2 d0 d1 d2 d3 d4 d5 d6 d7 d8 d9 d10 d11 d12 fz
                    all_goals go_meet
                    all_goals exact ⟨k, ro, rc, l', r2, lq, pq, rfl, HK, by omega, by omega, Lib.hid (HEL.out), M6, Lib.hid (HRr2.out), Lib.hid ((HOZ.out.keep fun b h1 h2 h3 => M6.out.ex.block b h3 (by simp; omega)))⟩
                  · have z1d : decide (0 < s.number) = false := decide_eq_false z1
                    go_wp2_with (fail)
                    clear d0 d1 d2 d3 d4 d5 d6 d7 d8 d9 d10 d11 d12 fz
                    all_goals go_meet
                    all_goals exact ⟨k, ro, rc, l', s, lq, pq, rfl, HK, by omega, by omega, Lib.hid (HEL.out), M2, Lib.hid (⟨HR0.out.1, HR0.out.2.le (by omega)⟩), Lib.hid ((HOZ.out.keep fun b h1 h2 h3 => M2.out.ex.block b h3 (by simp; omega)))⟩
                · have s3d : ((sw : Int) == 3) = false := by simp; omega
                  have s3e : (sw == 3) = false := by simp [s3]
                  clear s3
                  by_cases z1 : 1 < k
                  · have z1d : decide (1 < k) = true := decide_eq_true z1
                    have z1I : (1 : Int) < (k : Int) := by omega
                    go_upto_region 11 with (first
                      | (go_at_call 39
                         (fail_if_success (first | have _x := M3 | fail))
                         refine (next_w N p k _ M2.out.dice (by omega) (by omega)).mono ?_
                         rintro e w41 ⟨j2, rfl, hj2, hd, hexx⟩
                         have M3 := Lib.hid (M2.out.call hd hexx)
                         clear hd hexx
                         clear d0 d1 d2 d3 d4 d5 d6 d7 d8 d9 d10 d11 d12 fz
                         obtain ⟨⟨d0, d1, d2, d3, d4, d5, d6, d7, d8, d9, d10, d11, d12⟩, fz⟩ := M3.out.cells)
                      | fail)
                    obtain ⟨G, hG⟩ : ∃ G : Nat → Prop, G = fun b => w.heap.size ≤ b ∧ b ≠ w4.heap.size := ⟨_, rfl⟩
                    have HG := Lib.hid hG
                    have HOG : Hid (OwnG w41 w.heap.size G ro rc l') := Lib.hid (by rw [hG]; exact (HOZ.out.keep fun b h1 h2 h3 => M3.out.ex.block b h3 (by simp; omega)).1)
                    have hj2 : j2 + 1 ≤ k := by omega
                    obtain ⟨xs, a2, hxs, hlies, hs1, ha2, hs2, hra, hrl⟩ := HOG.out.parts j2 (by rw [HK.out]; omega)
                    obtain ⟨xs', a3, hxs', hlies', hs1', ha3, hs3, hra3, hrl3⟩ := HOG.out.parts (j2 + 1) (by rw [HK.out]; omega)
                    have HSS : Hid (xs.map (·.1) = l' ∧ (∀ x ∈ xs, Lies (fun b => G b ∧ rowOf ro ≠ some b) w41 x) ∧ Src w41 ro (xs.take j2)) := Lib.hid ⟨hxs, hlies, hs1⟩
                    have HST : Hid (xs'.map (·.1) = l' ∧ (∀ x ∈ xs', Lies (fun b => G b ∧ rowOf ro ≠ some b) w41 x) ∧ Src w41 a3 (xs'.drop (j2 + 1)) ∧ rowOf a3 = rowOf ro ∧ ∀ b, rowOf ro = some b → b < w41.heap.size) := Lib.hid ⟨hxs', hlies', hs3, hra3, hrl3⟩
                    have HXL : Hid (xs.length = k ∧ xs'.length = k) := Lib.hid ⟨by rw [← HK.out, ← hxs]; simp, by rw [← HK.out, ← hxs']; simp⟩
                    have HTL : Hid ((xs.take j2).length = j2) := Lib.hid (by rw [List.length_take, HXL.out.1]; omega)
                    have HDL : Hid ((xs'.drop (j2 + 1)).length = k - (j2 + 1)) := Lib.hid (by rw [List.length_drop, HXL.out.2])
                    have hkc : k ≤ rc := by have := HOG.out.len; rw [HK.out] at this; exact this
                    clear hxs hlies hs1 hs2 hra hrl hxs' hlies' hs1' hs3 hra3 hrl3 ha2 hG
                    have g1 : (0 : Int) ≤ (j2 : Int) := by omega
                    have g2 : (j2 : Int) ≤ (k : Int) := by omega
                    have g3 : (k : Int) ≤ (rc : Int) := by omega
                    have g4 : (j2 : Int) ≤ (rc : Int) := by omega
                    have g5 : (j2 : Int) + 1 ≤ (k : Int) := by omega
                    have g6 : (0 : Int) ≤ (j2 : Int) + 1 := by omega
                    have g7 : (j2 : Int) + 1 ≤ (rc : Int) := by omega
                    have hwj : IntKind.i64.wrap ((j2 : Int) + 1) = (j2 : Int) + 1 := IntWalk.i64_in _ (by omega)
                    clear d0 d1 d2 d3 d4 d5 d6 d7 d8 d9 d10 d11 d12 fz
                    subst ha3
                    go_region_held3 (fun _ => True) (first | trivial)
                      (first
                        | (refine step_appG rfl (.const (.slice none 0 0)) (.tmp 40) _ (by rfl) Try.underlying22 Try.infoSt w41.heap.size G none 0 0 [] rfl (by rfl) ro j2 rc (by rfl) (xs.take j2) HTL.out (OwnG.nil _ _ _) (HSS.out.2.2.keep fun _ _ _ => rfl) (fun x hx => ((HSS.out.2.1 x (List.mem_of_mem_take hx)).keep fun _ _ _ => rfl).mono fun b h _ => ⟨h.1, by simp [rowOf]⟩) (by omega) (Nat.le_refl _) j2 (by omega) ?_
                           intro ao1 cap1 wa hoa hea hba hra
                           have HA : Hid (OwnG wa w41.heap.size G ao1 cap1 ((xs.take j2).map (·.1)) ∧ Ex w41.heap.size none w41 wa ∧ (∀ b, rowOf ao1 = some b → b < wa.heap.size)) := Lib.hid ⟨by simpa using hoa, (Ex.refl _ _ w41).drew.trans hea (Nat.le_refl _) (by simp), hoa.row⟩
                           have hza : w41.heap.size ≤ wa.heap.size := hea.size
                           clear hoa hea hba hra)
                        | (refine step_appG rfl (.tmp 41) (.tmp 45) _ (by rfl) Try.underlying22 Try.infoSt w41.heap.size G ao1 cap1 j2 ((xs.take j2).map (·.1)) (by rw [List.length_map, HTL.out]) (by rfl) (if rc = j2 + 1 then ro else ro.map (fun x => x.add ((j2 + 1) * 13))) (k - (j2 + 1)) (rc - (j2 + 1)) (by rfl) (xs'.drop (j2 + 1)) HDL.out HA.out.1 (HST.out.2.2.1.keep fun b e hb => HA.out.2.1.block b hb (by simp)) (fun x hx => ((HST.out.2.1 x (List.mem_of_mem_drop hx)).mono (P' := fun b => G b ∧ b < w41.heap.size) fun b h hb => ⟨h.1, hb⟩).keep (fun b h _ => HA.out.2.1.block b h.2 (by simp)) |>.mono fun b h _ => ⟨h.1, fun e => by have := HA.out.1.row_ge b e; omega⟩) (by omega) (by omega) (k - 1) (by omega) ?_
                           intro ao3 cap3 wd hod hed hbd hrd
                           have HD9 : Hid (OwnG wd w41.heap.size G ao3 cap3 (l'.take j2 ++ l'.drop (j2 + 1)) ∧ Ex w41.heap.size none w41 wd) := Lib.hid ⟨by
                             have e1 : (xs.take j2).map (·.1) = l'.take j2 := by rw [← HSS.out.1, List.map_take]
                             have e2 : (xs'.drop (j2 + 1)).map (·.1) = l'.drop (j2 + 1) := by rw [← HST.out.1, List.map_drop]
                             rw [← e1, ← e2]; exact hod, HA.out.2.1.trans hed (Nat.le_refl _) (by simp)⟩
                           clear hod hed hbd hrd)
                        | fail)
                    have hlen : k - 1 = k - 1 := rfl
                    obtain ⟨l2, hl2⟩ : ∃ l2 : List St, l2 = l'.take j2 ++ l'.drop (j2 + 1) := ⟨_, rfl⟩
                    obtain ⟨k2, hk2⟩ : ∃ k2, k2 = k - 1 := ⟨_, rfl⟩
                    have hk2' : 1 ≤ k2 ∧ k2 ≤ k := by omega
                    have HK2 : Hid (l2.length = k2) := Lib.hid (by rw [hl2, hk2, List.length_append, List.length_take, List.length_drop, HK.out]; omega)
                    have HEL2 : Hid (ElL A (T + 2 - (m : Int)) l2) := Lib.hid (by
                      rw [hl2]
                      intro x hx
                      rcases List.mem_append.1 hx with h | h
                      · exact HEL.out x (List.mem_of_mem_take h)
                      · exact HEL.out x (List.mem_of_mem_drop h))
                    have M4 : Hid (BoxD N p w4.heap.size w3.heap.size wr wd s lq pq) := Lib.hid (M3.out.call0 HD9.out.2)
                    have HOZ2 : Hid (OwnZ w4.heap.size w.heap.size wd ao3 cap3 l2) := Lib.hid (by
                      have hp3 := M3.out.pos
                      rw [hl2]
                      exact ⟨(HD9.out.1.lowG (by omega)).monoG fun b hb _ => by rw [HG.out] at hb; exact hb, fun e => by have := HD9.out.1.row_ge _ e; omega⟩)
                    rw [← hk2]
                    clear hl2 hk2 HOG
                    go_wp2_with (fail)
                    all_goals go_meet
                    all_goals exact ⟨k2, ao3, cap3, l2, s, lq, pq, rfl, HK2, by omega, by omega, Lib.hid (HEL2.out), M4, Lib.hid (⟨HR0.out.1, HR0.out.2.le (by omega)⟩), Lib.hid (HOZ2.out)⟩
                  · have z1d : decide (1 < k) = false := decide_eq_false z1
                    have z1I : ¬ (1 : Int) < (k : Int) := by omega
                    go_wp2_with (fail)
                    clear d0 d1 d2 d3 d4 d5 d6 d7 d8 d9 d10 d11 d12 fz
                    all_goals go_meet
                    all_goals exact ⟨k, ro, rc, l', s, lq, pq, rfl, HK, by omega, by omega, Lib.hid (HEL.out), M2, Lib.hid (⟨HR0.out.1, HR0.out.2.le (by omega)⟩), Lib.hid ((HOZ.out.keep fun b h1 h2 h3 => M2.out.ex.block b h3 (by simp; omega)))⟩
        case rest =>
          clear d0 d1 d2 d3 d4 d5 d6 d7 d8 d9 d10 d11 d12 fz
          obtain ⟨k5, ro5, rc5, l5, r9, lq5, pq5, rfl, HK5, hk5, hk5b, HEL5, M9, HR9, HO9⟩ := hcut
          obtain ⟨⟨d0, d1, d2, d3, d4, d5, d6, d7, d8, d9, d10, d11, d12⟩, fz⟩ := M9.out.cells
          have hzW : wr.heap.size ≤ wc.heap.size := M9.out.ex.size
          go_upto_region 25 with (first
            | (go_at_call 55
               refine (seal03_any r9 lq5.ao pq5.ao lq5.n lq5.c pq5.n pq5.c wc M9.out.lies HR9.out.2.small.tame).mono ?_
               rintro e w5 ⟨la, na, ca, pa, np, cp, rfl, hl5, hex5⟩
               have HL5 := Lib.hid hl5
               have HE5 := Lib.hid hex5
               have hz5 : wc.heap.size ≤ w5.heap.size := hex5.size
               have M5 := Lib.hid (M9.out.call0 hex5)
               clear hl5 hex5 d0 d1 d2 d3 d4 d5 d6 d7 d8 d9 d10 d11 d12 fz)
            | (refine wpList_store_rowTo rfl 30 (.tmp 7) (.tmp 97) rfl rfl w4.heap.size #[.int .i64 r9.author, .int .i64 r9.number, .string r9.prev, .int .i64 r9.time, .int .i64 r9.kind, .int .i64 r9.a, .int .i64 r9.b, .int .i64 r9.c, .slice la na ca, .slice pa np cp, .string r9.body, .int .i64 r9.author, .string (sha (stB r9))] (by rfl) (by rfl) 30 (stE (r9, lq5, pq5)).toArray M5.out.blk Try.sizeSt rfl (by simp [Value.oneCell']) ?_)
            | fail)
          obtain ⟨w6, hw6⟩ : ∃ w6 : World, w6 = w5.setRow w4.heap.size #[.int .i64 r9.author, .int .i64 r9.number, .string r9.prev, .int .i64 r9.time, .int .i64 r9.kind, .int .i64 r9.a, .int .i64 r9.b, .int .i64 r9.c, .slice la na ca, .slice pa np cp, .string r9.body, .int .i64 r9.author, .string (sha (stB r9))] := ⟨_, rfl⟩
          obtain ⟨l6, hl6⟩ : ∃ l6 : Sv, l6 = ⟨la, na, ca⟩ := ⟨_, rfl⟩
          obtain ⟨q6, hq6⟩ : ∃ q6 : Sv, q6 = ⟨pa, np, cp⟩ := ⟨_, rfl⟩
          obtain ⟨s6, hs6⟩ : ∃ s6, s6 = sealS r9 := ⟨_, rfl⟩
          have M6 : Hid (BoxD N p w4.heap.size w3.heap.size wr w6 s6 l6 q6 ∧ OwnZ w4.heap.size w.heap.size w6 ro5 rc5 l5 ∧ Lies (fun b => wc.heap.size ≤ b) w6 (s6, l6, q6)) := Lib.hid (by
            rw [hw6, hl6, hq6, hs6]
            have hpos := M9.out.pos
            have hex9 := M9.out.ex.size
            refine ⟨M5.out.setRow (r' := sealS r9) (l' := ⟨la, na, ca⟩) (q' := ⟨pa, np, cp⟩) (HL5.out.mono fun b h _ => ⟨by omega, by omega⟩), ?_, HL5.out.keep fun b h _ => setRow_other _ _ _ _ (by omega)⟩
            exact HO9.out.keep fun b h1 h2 h3 => (setRow_other _ _ _ _ h2).trans (HE5.out.block b h3 (by simp)))
          have HS6 : Hid (A s6.author ∧ El (T + 2 - (m : Int) + 1) s6) := Lib.hid (by rw [hs6]; exact ⟨HR9.out.1, ⟨⟨HR9.out.2.small.list, HR9.out.2.small.pins, HR9.out.2.small.prev, HR9.out.2.small.body, HR9.out.2.small.digs⟩, HR9.out.2.time, HR9.out.2.number⟩⟩)
          have hz6 : w5.heap.size ≤ w6.heap.size := by rw [hw6]; simp
          rw [← hw6]
          clear hw6 hl6 hq6 hs6
          obtain ⟨⟨d0, d1, d2, d3, d4, d5, d6, d7, d8, d9, d10, d11, d12⟩, fz⟩ := M6.out.1.cells
          obtain ⟨cz, hcz⟩ : ∃ cz, cz = checkI s6 := ⟨_, rfl⟩
          have HCK : Hid (Calls Try.prog 56 #[.agg #[.int .i64 s6.author, .int .i64 s6.number, .string s6.prev, .int .i64 s6.time, .int .i64 s6.kind, .int .i64 s6.a, .int .i64 s6.b, .int .i64 s6.c, .slice l6.ao l6.n l6.c, .slice q6.ao q6.n q6.c, .string s6.body, .int .i64 s6.key, .string s6.dig]] w6 fun e w' => e = .returned (.int .i64 cz) ∧ Ex w6.heap.size none w6 w') := Lib.hid (by
            rw [hcz]
            exact check03_any s6 l6.ao q6.ao l6.n l6.c q6.n q6.c w6 M6.out.1.lies ⟨by have := HS6.out.2.small.list; omega, by have := HS6.out.2.small.pins; omega⟩)
          clear hcz
          by_cases c0 : cz = 0
          · have c0d : (cz == 0) = true := by simp [c0]
            clear c0
            go_upto_if 105 with (first
              | (go_at_call 56
                 refine HCK.out.mono ?_
                 rintro e w7 ⟨rfl, hex7⟩
                 have HE7 := Lib.hid hex7
                 have hz7 : w6.heap.size ≤ w7.heap.size := hex7.size
                 have M7 := Lib.hid (M6.out.1.call0 hex7)
                 have HO7 : Hid (OwnZ w4.heap.size w.heap.size w7 ro5 rc5 l5 ∧ Lies (fun b => wc.heap.size ≤ b) w7 (s6, l6, q6)) := Lib.hid ⟨M6.out.2.1.keep fun b _ _ h3 => hex7.block b h3 (by simp), M6.out.2.2.keep fun b _ hb => hex7.block b hb (by simp)⟩
                 clear hex7 d0 d1 d2 d3 d4 d5 d6 d7 d8 d9 d10 d11 d12 fz)
              | (go_at_call 57
                 refine (one_w N p 3 _ M7.out.dice (by omega) (by omega)).mono ?_
                 rintro e w8 ⟨b8, rfl, hd, hex8⟩
                 have M8 := Lib.hid (M7.out.call hd hex8)
                 have HO8 : Hid (OwnZ w4.heap.size w.heap.size w8 ro5 rc5 l5 ∧ Lies (fun b => wc.heap.size ≤ b) w8 (s6, l6, q6)) := Lib.hid ⟨HO7.out.1.keep fun b h1 _ h3 => hex8.block b h3 (by simp; omega), HO7.out.2.keep fun b h hb => hex8.block b hb (by simp; omega)⟩
                 have hz8 : w7.heap.size ≤ w8.heap.size := hex8.size
                 clear hd hex8)
              | fail)
            cases b8 with
            | true =>
              go_wp2
              go_roundw
              case rel => first | exact ⟨m - 1, k5, ro5, rc5, l5, by first | go_num | (congr 1; omega), rfl, HK5, by omega, by omega, by omega, Lib.hid ((HEL5.out).le (by omega)), Lib.hid HO8.out.1.s, Lib.hid M8.out.dice, hex.trans M8.out.ex hsz (fun q e _ => by cases e; rfl)⟩ | ((repeat apply Exists.intro); exact ⟨⟨m - 1, k5, ro5, rc5, l5, by first | go_num | (congr 1; omega), rfl, HK5, by omega, by omega, by omega, Lib.hid ((HEL5.out).le (by omega)), Lib.hid HO8.out.1.s, Lib.hid M8.out.dice, hex.trans M8.out.ex hsz (fun q e _ => by cases e; rfl)⟩, rfl⟩)
              case measure => simp [intOf] <;> omega
            | false =>
              obtain ⟨⟨d0, d1, d2, d3, d4, d5, d6, d7, d8, d9, d10, d11, d12⟩, fz⟩ := M8.out.cells
              go_wp2_with (at_builtin; refine wpList_appT rfl (.tmp 106) (.tmp 108) _ (by rfl) Try.underlying22 Try.infoSt w.heap.size w.heap.size ro5 rc5 (k5) (l5) HK5.out (by rfl) (some ⟨w8.heap.size, 0, none⟩) 1 1 (by rfl) [(s6, l6, q6)] rfl (HO8.out.1.s.t.keep (Ex.new w8 _) (Nat.le_refl _)) (lit_cells rfl) (fun y hy => by rw [List.mem_singleton.1 hy]; exact (HO8.out.2.keep fun b _ hb => (Ex.new w8 _).block b hb (by simp)).mono fun b h _ => ⟨by omega, fun e => by have := HO9.out.s.t.row b e; omega⟩) (by omega) (by simp; omega) (k5 + 1) (by omega) ?_; intro ao3 cap3 wd hod hed hbd hrd; have HD3 : Hid (OwnS wd w.heap.size ao3 cap3 (l5 ++ [s6]) ∧ Ex w.heap.size none w8 wd) := Lib.hid ⟨hod, ((Ex.new w8 _).mono (by omega)).trans hed (Nat.le_refl _) (by simp)⟩; clear hod hed hbd hrd)
              go_roundw
              case rel => first | exact ⟨m - 1, k5 + 1, ao3, cap3, l5 ++ [s6], by first | go_num | (congr 1; omega), rfl, Lib.hid (by rw [List.length_append, HK5.out]; rfl), by omega, by omega, by omega, Lib.hid (((HEL5.out).le (by omega)).app (ElL.one ⟨HS6.out.1, HS6.out.2.le (by omega)⟩)), Lib.hid HD3.out.1, Lib.hid (M8.out.dice.keep HD3.out.2 hN), (hex.trans M8.out.ex hsz (fun q e _ => by cases e; rfl)).trans HD3.out.2 (Nat.le_refl _) (by simp)⟩ | ((repeat apply Exists.intro); exact ⟨⟨m - 1, k5 + 1, ao3, cap3, l5 ++ [s6], by first | go_num | (congr 1; omega), rfl, Lib.hid (by rw [List.length_append, HK5.out]; rfl), by omega, by omega, by omega, Lib.hid (((HEL5.out).le (by omega)).app (ElL.one ⟨HS6.out.1, HS6.out.2.le (by omega)⟩)), Lib.hid HD3.out.1, Lib.hid (M8.out.dice.keep HD3.out.2 hN), (hex.trans M8.out.ex hsz (fun q e _ => by cases e; rfl)).trans HD3.out.2 (Nat.le_refl _) (by simp)⟩, rfl⟩)
              case measure => simp [intOf] <;> omega
          · have c0d : (cz == 0) = false := by simp [c0]
            clear c0
            go_wp2_with (first
              | (go_at_call 56
                 refine HCK.out.mono ?_
                 rintro e w7 ⟨rfl, hex7⟩
                 have HE7 := Lib.hid hex7
                 have hz7 : w6.heap.size ≤ w7.heap.size := hex7.size
                 have M7 := Lib.hid (M6.out.1.call0 hex7)
                 have HO7 : Hid (OwnZ w4.heap.size w.heap.size w7 ro5 rc5 l5 ∧ Lies (fun b => wc.heap.size ≤ b) w7 (s6, l6, q6)) := Lib.hid ⟨M6.out.2.1.keep fun b _ _ h3 => hex7.block b h3 (by simp), M6.out.2.2.keep fun b _ hb => hex7.block b hb (by simp)⟩
                 clear hex7 d0 d1 d2 d3 d4 d5 d6 d7 d8 d9 d10 d11 d12 fz)
              | fail)
            go_roundw
            case rel => first | exact ⟨m - 1, k5, ro5, rc5, l5, by first | go_num | (congr 1; omega), rfl, HK5, by omega, by omega, by omega, Lib.hid ((HEL5.out).le (by omega)), Lib.hid HO7.out.1.s, Lib.hid M7.out.dice, hex.trans M7.out.ex hsz (fun q e _ => by cases e; rfl)⟩ | ((repeat apply Exists.intro); exact ⟨⟨m - 1, k5, ro5, rc5, l5, by first | go_num | (congr 1; omega), rfl, HK5, by omega, by omega, by omega, Lib.hid ((HEL5.out).le (by omega)), Lib.hid HO7.out.1.s, Lib.hid M7.out.dice, hex.trans M7.out.ex hsz (fun q e _ => by cases e; rfl)⟩, rfl⟩)
            case measure => simp [intOf] <;> omega
      · have h0I : ¬ (0 : Int) < (m : Int) := by omega
        have h0d : decide (0 < m) = false := decide_eq_false h0
        go_wp2
        go_ret
        exact ⟨ro, rc, k, rfl, l', ⟨HK.out.symm, by omega⟩, HO.out, HEL.out.le (by omega), HD.out, hex⟩
end Go.Proofs.Ytdmchekkcmjafaa

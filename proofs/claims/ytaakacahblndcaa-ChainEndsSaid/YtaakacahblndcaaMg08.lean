/- statement.Bytes, Digest, Sealed: contracts. No statement of the seat. | statement.Digest and Sealed: contracts. No statement of the seat. | The program's statement.Seal: a contract, no statement of the seat. -/
import Derived.Test.YtaakacahblndcaaMg02
import Derived.Test.YtaakacahblndcaaSumPG
import Derived.Test.YtaakacahblndcaaSeal03G
import Derived.BigQuiet
import Derived.Test.YtaakacahblndcaaOnlyG
import Derived.Deep.RegionLaw
namespace Go.Proofs.Ytaakacahblndcaa
open Go.RowKit Go.Sort

theorem int_v {P : Nat → Prop} (v : Value) (xs : List UInt8) (n : Int) (w : World) (hv : Sl byRep P w v xs) (hm : xs.length ≤ 5000000) :
    Calls Try.prog 52 #[v, .int .i64 n] w fun e w' => ∃ u, e = .returned u ∧ ByV w' w.heap.size u (xs ++ int8 n) ∧ Ex w.heap.size none w w' :=
  (int_any v xs n w hv hm).mono fun e w' ⟨ro, rc, h1, h2, h3⟩ => ⟨_, h1, ⟨ro, rc, by rw [List.length_append]; rfl, h2⟩, h3⟩
theorem text_v {P : Nat → Prop} (v : Value) (xs : List UInt8) (s : ByteArray) (w : World) (hv : Sl byRep P w v xs) (hm : xs.length ≤ 4000000) (hs : s.size ≤ 1200000) :
    Calls Try.prog 53 #[v, .string s] w fun e w' => ∃ u, e = .returned u ∧ ByV w' w.heap.size u (xs ++ int8 s.size ++ strL s) ∧ Ex w.heap.size none w w' :=
  (text_any v xs s w hv hm hs).mono fun e w' ⟨ro, rc, h1, h2, h3⟩ => ⟨_, h1, ⟨ro, rc, by rw [List.length_append, List.length_append, strL_len]; rfl, h2⟩, h3⟩
theorem ints_v {P : Nat → Prop} (v u : Value) (xs : List UInt8) (l : List Int) (w : World) (hv : Sl byRep P w v xs) (hu : Ints w u l) (hm : xs.length ≤ 3000000) (hl : l.length ≤ 100000) :
    Calls Try.prog 54 #[v, u] w fun e w' => ∃ u, e = .returned u ∧ ByV w' w.heap.size u (xs ++ int8 l.length ++ intsB l) ∧ Ex w.heap.size none w w' :=
  (ints_any v u xs l w hv hu hm hl).mono fun e w' ⟨ro, rc, h1, h2, h3⟩ => ⟨_, h1, ⟨ro, rc, by rw [List.length_append, List.length_append, intsB_len]; rfl, h2⟩, h3⟩
theorem Try.idx5_0 (a0 a1 a2 a3 a4 : Value) (w : World) : (Instr.index 95 (.agg #[a0, a1, a2, a3, a4]) (.int .i64 0)).run Try.prog w = .ok a0 w := by kernel_rfl
theorem Try.idx5_1 (a0 a1 a2 a3 a4 : Value) (w : World) : (Instr.index 95 (.agg #[a0, a1, a2, a3, a4]) (.int .i64 1)).run Try.prog w = .ok a1 w := by kernel_rfl
theorem Try.idx5_2 (a0 a1 a2 a3 a4 : Value) (w : World) : (Instr.index 95 (.agg #[a0, a1, a2, a3, a4]) (.int .i64 2)).run Try.prog w = .ok a2 w := by kernel_rfl
theorem Try.idx5_3 (a0 a1 a2 a3 a4 : Value) (w : World) : (Instr.index 95 (.agg #[a0, a1, a2, a3, a4]) (.int .i64 3)).run Try.prog w = .ok a3 w := by kernel_rfl
theorem Try.idx5_4 (a0 a1 a2 a3 a4 : Value) (w : World) : (Instr.index 95 (.agg #[a0, a1, a2, a3, a4]) (.int .i64 4)).run Try.prog w = .ok a4 w := by kernel_rfl

set_option maxHeartbeats 16000000 in
set_option maxRecDepth 100000 in
theorem bytesP_any {P : Nat → Prop} (s : St) (lo po : Option Addr) (ln lc pn pc : Nat) (w : World) (hs : Lies P w (s, ⟨lo, ln, lc⟩, ⟨po, pn, pc⟩)) (ht : Tame s) :
    Calls Try.prog 32 #[.agg #[.int .i64 s.author, .int .i64 s.number, .string s.prev, .int .i64 s.time, .int .i64 s.kind, .int .i64 s.a, .int .i64 s.b, .int .i64 s.c, .slice lo ln lc, .slice po pn pc, .string s.body, .int .i64 s.key, .string s.dig]] w fun e w' => ∃ v, e = .returned v ∧ ByV w' w.heap.size v (stB s) ∧ Ex w.heap.size none w w' := by
  have HT := Lib.hid ht
  have HLS := Lib.hid hs
  have HLN : Hid (ln = s.list.length) := by obtain ⟨⟨_, _, e, _⟩, _⟩ := hs; simp only [Sv.v] at e; cases e; exact rfl
  have HPN : Hid (pn = s.pins.length) := by obtain ⟨_, ⟨_, _, e, _⟩⟩ := hs; simp only [Sv.v] at e; cases e; exact rfl
  have hpn : pn ≤ 1000 := by have := ht.pins; have := HPN.out; omega
  clear hs ht
  obtain ⟨w0, hw0⟩ : ∃ w0 : World, w0 = w.alloc (.cells #[.int .i64 s.author, .int .i64 s.number, .string s.prev, .int .i64 s.time, .int .i64 s.kind, .int .i64 s.a, .int .i64 s.b, .int .i64 s.c, .slice lo ln lc, .slice po pn pc, .string s.body, .int .i64 s.key, .string s.dig] 33) := ⟨_, rfl⟩
  have hz0 : w.heap.size < w0.heap.size := by rw [hw0]; simp
  have HE0 : Hid (Ex w.heap.size none w w0) := by rw [hw0]; exact Ex.new w _
  have HC : Hid (∀ w', Ex w0.heap.size none w0 w' → w'.cell? ⟨w.heap.size, 0, none⟩ = some (.int .i64 s.author) ∧ w'.cell? ⟨w.heap.size, 1, none⟩ = some (.int .i64 s.number) ∧ w'.cell? ⟨w.heap.size, 2, none⟩ = some (.string s.prev) ∧ w'.cell? ⟨w.heap.size, 3, none⟩ = some (.int .i64 s.time) ∧ w'.cell? ⟨w.heap.size, 4, none⟩ = some (.int .i64 s.kind) ∧ w'.cell? ⟨w.heap.size, 5, none⟩ = some (.int .i64 s.a) ∧ w'.cell? ⟨w.heap.size, 6, none⟩ = some (.int .i64 s.b) ∧ w'.cell? ⟨w.heap.size, 7, none⟩ = some (.int .i64 s.c) ∧ w'.cell? ⟨w.heap.size, 8, none⟩ = some (.slice lo ln lc) ∧ w'.cell? ⟨w.heap.size, 9, none⟩ = some (.slice po pn pc) ∧ w'.cell? ⟨w.heap.size, 10, none⟩ = some (.string s.body) ∧ w'.cell? ⟨w.heap.size, 11, none⟩ = some (.int .i64 s.key) ∧ w'.cell? ⟨w.heap.size, 12, none⟩ = some (.string s.dig)) := fun w' h => (st_block ((h.block w.heap.size hz0 (by simp)).trans (by rw [hw0]; exact heap_alloc_new w _))).1
  go_enter Try.func32, Try.ntmps32
  go_upto_region 1 with (fail)
  rw [← hw0]
  clear hw0
  obtain ⟨d0, d1, d2, d3, d4, d5, d6, d7, d8, d9, d10, d11, d12⟩ := HC.out _ (Ex.refl _ _ w0)
  go_upto_region 2 with (go_at_call 52; refine (int_v (.slice none 0 0) [] s.author _ (Sl.nil (fun _ => True) _) (by simp)).mono ?_; rintro e wa ⟨ua, rfl, hh, hex⟩; have HA : Hid (ByV wa w0.heap.size ua (int8 s.author) ∧ Ex w0.heap.size none w0 wa) := Lib.hid ⟨hh.lower (Nat.le_refl _), hex⟩; have hzwa : w0.heap.size ≤ wa.heap.size := HA.out.2.size; clear hh hex d0 d1 d2 d3 d4 d5 d6 d7 d8 d9 d10 d11 d12; obtain ⟨d0, d1, d2, d3, d4, d5, d6, d7, d8, d9, d10, d11, d12⟩ := HC.out _ HA.out.2)
  go_upto_region 3 with (go_at_call 52; refine (int_v ua _ s.number _ HA.out.1.sl (by rw [int8_len]; omega)).mono ?_; rintro e wb ⟨ub, rfl, hh, hex⟩; have HB : Hid (ByV wb w0.heap.size ub (int8 s.author ++ int8 s.number) ∧ Ex w0.heap.size none w0 wb) := Lib.hid ⟨hh.lower hzwa, HA.out.2.trans hex hzwa (by simp)⟩; have hzwb : w0.heap.size ≤ wb.heap.size := HB.out.2.size; clear hh hex d0 d1 d2 d3 d4 d5 d6 d7 d8 d9 d10 d11 d12; obtain ⟨d0, d1, d2, d3, d4, d5, d6, d7, d8, d9, d10, d11, d12⟩ := HC.out _ HB.out.2)
  go_upto_region 4 with (go_at_call 53; refine (text_v ub _ s.prev _ HB.out.1.sl (by rw [List.length_append, int8_len, int8_len]; omega) (by have := HT.out.prev; omega)).mono ?_; rintro e wd ⟨ud, rfl, hh, hex⟩; have HD : Hid (ByV wd w0.heap.size ud (stB0 s) ∧ Ex w0.heap.size none w0 wd) := Lib.hid ⟨hh.lower hzwb, HB.out.2.trans hex hzwb (by simp)⟩; have hzwd : w0.heap.size ≤ wd.heap.size := HD.out.2.size; clear hh hex d0 d1 d2 d3 d4 d5 d6 d7 d8 d9 d10 d11 d12; obtain ⟨d0, d1, d2, d3, d4, d5, d6, d7, d8, d9, d10, d11, d12⟩ := HC.out _ HD.out.2)
  clear HA HB hzwa hzwb
  have HVF : Hid (ByV wd w0.heap.size ud (stB1 s 0)) := Lib.hid (by simpa [stB1] using HD.out.1)
  go_wp2_with fail
  clear d0 d1 d2 d3 d4 d5 d6 d7 d8 d9 d10 d11 d12
  go_loopw [3, 5, 30] (fun v x i wr => ∃ (k : Nat), k ≤ 5 ∧ i = .int .i64 k ∧ Hid (ByV wr w0.heap.size v (stB1 s k)) ∧ Ex w0.heap.size none w0 wr) (fun _ _ i _ => 5 - (intOf i).toNat)
  case atStart => exact ⟨0, by omega, rfl, HVF, HD.out.2⟩
  case round =>
    obtain ⟨k, hk, rfl, hv, hex⟩ := hrel
    have hsz := hex.size
    have HE := Lib.hid hex
    clear hex
    rcases (by omega : k = 0 ∨ k = 1 ∨ k = 2 ∨ k = 3 ∨ k = 4 ∨ k = 5) with rfl | rfl | rfl | rfl | rfl | hk5
    · have ix := fun w => Try.idx5_0 (.int .i64 s.time) (.int .i64 s.kind) (.int .i64 s.a) (.int .i64 s.b) (.int .i64 s.c) w
      go_wp2_with (go_at_call 52; refine (int_v _ _ s.time _ hv.out.sl (by have := stB1_len s 0; have := HT.out.prev; omega)).mono ?_; rintro e w2 ⟨u2, rfl, hh, hex2⟩; have H2 : Hid (ByV w2 w0.heap.size u2 (stB1 s 1) ∧ Ex w0.heap.size none w0 w2) := Lib.hid ⟨by rw [stB1_succ s 0 (by omega)]; exact hh.lower (by omega), HE.out.trans hex2 hsz (by simp)⟩; clear hh hex2)
      go_roundw
      case rel => exact ⟨1, by omega, by first | rfl | go_num, H2.out.1, H2.out.2⟩
      case measure => simp [intOf]
    · have ix := fun w => Try.idx5_1 (.int .i64 s.time) (.int .i64 s.kind) (.int .i64 s.a) (.int .i64 s.b) (.int .i64 s.c) w
      go_wp2_with (go_at_call 52; refine (int_v _ _ s.kind _ hv.out.sl (by have := stB1_len s 1; have := HT.out.prev; omega)).mono ?_; rintro e w2 ⟨u2, rfl, hh, hex2⟩; have H2 : Hid (ByV w2 w0.heap.size u2 (stB1 s 2) ∧ Ex w0.heap.size none w0 w2) := Lib.hid ⟨by rw [stB1_succ s 1 (by omega)]; exact hh.lower (by omega), HE.out.trans hex2 hsz (by simp)⟩; clear hh hex2)
      go_roundw
      case rel => exact ⟨2, by omega, by first | rfl | go_num, H2.out.1, H2.out.2⟩
      case measure => simp [intOf]
    · have ix := fun w => Try.idx5_2 (.int .i64 s.time) (.int .i64 s.kind) (.int .i64 s.a) (.int .i64 s.b) (.int .i64 s.c) w
      go_wp2_with (go_at_call 52; refine (int_v _ _ s.a _ hv.out.sl (by have := stB1_len s 2; have := HT.out.prev; omega)).mono ?_; rintro e w2 ⟨u2, rfl, hh, hex2⟩; have H2 : Hid (ByV w2 w0.heap.size u2 (stB1 s 3) ∧ Ex w0.heap.size none w0 w2) := Lib.hid ⟨by rw [stB1_succ s 2 (by omega)]; exact hh.lower (by omega), HE.out.trans hex2 hsz (by simp)⟩; clear hh hex2)
      go_roundw
      case rel => exact ⟨3, by omega, by first | rfl | go_num, H2.out.1, H2.out.2⟩
      case measure => simp [intOf]
    · have ix := fun w => Try.idx5_3 (.int .i64 s.time) (.int .i64 s.kind) (.int .i64 s.a) (.int .i64 s.b) (.int .i64 s.c) w
      go_wp2_with (go_at_call 52; refine (int_v _ _ s.b _ hv.out.sl (by have := stB1_len s 3; have := HT.out.prev; omega)).mono ?_; rintro e w2 ⟨u2, rfl, hh, hex2⟩; have H2 : Hid (ByV w2 w0.heap.size u2 (stB1 s 4) ∧ Ex w0.heap.size none w0 w2) := Lib.hid ⟨by rw [stB1_succ s 3 (by omega)]; exact hh.lower (by omega), HE.out.trans hex2 hsz (by simp)⟩; clear hh hex2)
      go_roundw
      case rel => exact ⟨4, by omega, by first | rfl | go_num, H2.out.1, H2.out.2⟩
      case measure => simp [intOf]
    · have ix := fun w => Try.idx5_4 (.int .i64 s.time) (.int .i64 s.kind) (.int .i64 s.a) (.int .i64 s.b) (.int .i64 s.c) w
      go_wp2_with (go_at_call 52; refine (int_v _ _ s.c _ hv.out.sl (by have := stB1_len s 4; have := HT.out.prev; omega)).mono ?_; rintro e w2 ⟨u2, rfl, hh, hex2⟩; have H2 : Hid (ByV w2 w0.heap.size u2 (stB1 s 5) ∧ Ex w0.heap.size none w0 w2) := Lib.hid ⟨by rw [stB1_succ s 4 (by omega)]; exact hh.lower (by omega), HE.out.trans hex2 hsz (by simp)⟩; clear hh hex2)
      go_roundw
      case rel => exact ⟨5, by omega, by first | rfl | go_num, H2.out.1, H2.out.2⟩
      case measure => simp [intOf]
    · have hk5I : ¬ (k : Int) < 5 := by omega
      have HV5 : Hid (ByV wr w0.heap.size u3 (stB1 s 5)) := by rw [← hk5]; exact hv.out
      clear hv hk5
      obtain ⟨w1, hw1⟩ : ∃ w1, w1 = wr := ⟨_, rfl⟩
      subst hw1
      obtain ⟨d0, d1, d2, d3, d4, d5, d6, d7, d8, d9, d10, d11, d12⟩ := HC.out _ HE.out
      go_upto_region 10 with (go_at_call 54; refine (ints_v u3 (.slice lo ln lc) (stB1 s 5) s.list _ HV5.out.sl (sl_ints (HLS.out.keep fun b _ hb => (HE0.out.trans HE.out (by omega) (by simp)).block b hb (by simp)).1) (by have := stB1_len s 5; have := HT.out.prev; omega) (by have := HT.out.list; omega)).mono ?_; rintro e wg ⟨ug, rfl, hh, hex⟩; have HG : Hid (ByV wg w0.heap.size ug ((stB1 s 5 ++ int8 s.list.length) ++ intsB s.list) ∧ Ex w0.heap.size none w0 wg) := Lib.hid ⟨hh.lower hsz, HE.out.trans hex hsz (by simp)⟩; have hzwg : w0.heap.size ≤ wg.heap.size := HG.out.2.size; clear hh hex d0 d1 d2 d3 d4 d5 d6 d7 d8 d9 d10 d11 d12; obtain ⟨d0, d1, d2, d3, d4, d5, d6, d7, d8, d9, d10, d11, d12⟩ := HC.out _ HG.out.2)
      go_upto_region 11 with (go_at_call 52; refine (int_v ug _ (pn : Int) _ HG.out.1.sl (by have := stB1_len s 5; have := HT.out.prev; have := HT.out.list; rw [List.length_append, List.length_append, int8_len, intsB_len]; omega)).mono ?_; rintro e wh ⟨uh, rfl, hh, hex⟩; have HH : Hid (ByV wh w0.heap.size uh (stB2 s) ∧ Ex w0.heap.size none w0 wh) := Lib.hid ⟨by unfold stB2; rw [← HPN.out]; exact hh.lower hzwg, HG.out.2.trans hex hzwg (by simp)⟩; have hzwh : w0.heap.size ≤ wh.heap.size := HH.out.2.size; clear hh hex d0 d1 d2 d3 d4 d5 d6 d7 d8 d9 d10 d11 d12; obtain ⟨d0, d1, d2, d3, d4, d5, d6, d7, d8, d9, d10, d11, d12⟩ := HC.out _ HH.out.2)
      clear HG hzwg HV5
      have HV8 : Hid (ByV wh w0.heap.size uh (stB3 s 0)) := by rw [show stB3 s 0 = stB2 s by simp [stB3, pinsL]]; exact HH.out.1
      go_wp2_with fail
      clear d0 d1 d2 d3 d4 d5 d6 d7 d8 d9 d10 d11 d12
      go_loopw [3, 7, 49] (fun v q i wi => ∃ (k : Nat), k ≤ pn ∧ i = .int .i64 k ∧ Hid (ByV wi w0.heap.size v (stB3 s k)) ∧ Ex w0.heap.size none w0 wi) (fun _ _ i _ => pn - (intOf i).toNat)
      case atStart => exact ⟨0, by omega, rfl, HV8, HH.out.2⟩
      case round =>
        obtain ⟨m, hm, rfl, hv, hex⟩ := hrel
        have hszi := hex.size
        have HEI := Lib.hid hex
        clear hex
        by_cases hlt : m < pn
        · have hltI : (m : Int) < (pn : Int) := by omega
          obtain ⟨b, off, p, hpo, _, hb, c0, c1, c2, HP⟩ := pin_get ((HLS.out.keep fun b _ hb => (HE0.out.trans HEI.out (by omega) (by simp)).block b hb (by simp)).2.at') m (by rw [← HPN.out]; exact hlt)
          subst hpo
          have HPS : Hid (p.2.2.size ≤ 1200000) := HT.out.dig (List.mem_of_getElem? HP.out)
          go_upto_region 14 with (fail)
          obtain ⟨wp, hwp⟩ : ∃ wp : World, wp = wr.alloc (.cells #[.int .i64 p.1, .int .i64 p.2.1, .string p.2.2] 67) := ⟨_, rfl⟩
          have HCP : Hid (∀ w', Ex wp.heap.size none wp w' → w'.cell? ⟨wr.heap.size, 0, none⟩ = some (.int .i64 p.1) ∧ w'.cell? ⟨wr.heap.size, 1, none⟩ = some (.int .i64 p.2.1) ∧ w'.cell? ⟨wr.heap.size, 2, none⟩ = some (.string p.2.2)) := fun w' h => by
            have hb9 : w'.heap[wr.heap.size]? = some (.cells #[.int .i64 p.1, .int .i64 p.2.1, .string p.2.2] 67 (0, 0)) := (h.block wr.heap.size (by rw [hwp]; simp) (by simp)).trans (by rw [hwp]; exact heap_alloc_new wr _)
            exact ⟨cell_of_row _ _ _ _ _ _ hb9, cell_of_row _ _ _ _ _ _ hb9, cell_of_row _ _ _ _ _ _ hb9⟩
          have HEP : Hid (Ex w0.heap.size none w0 wp) := by rw [hwp]; exact HEI.out.trans (Ex.new wr _) hszi (by simp)
          have HVP : Hid (ByV wp w0.heap.size u3 (stB3 s m)) := by rw [hwp]; exact hv.out.keep (Ex.new wr _) (Nat.le_refl _)
          have hzp : w0.heap.size ≤ wp.heap.size := HEP.out.size
          rw [← hwp]
          clear hwp
          go_region_held3 (fun w' => w'.cell? ⟨wr.heap.size, 0, none⟩ = some (.int .i64 p.1) ∧ w'.cell? ⟨wr.heap.size, 1, none⟩ = some (.int .i64 p.2.1) ∧ w'.cell? ⟨wr.heap.size, 2, none⟩ = some (.string p.2.2)) (first | exact HCP.out _ ((Ex.refl _ _ wp).drew) | exact HCP.out _ HG1.out.2 | exact HCP.out _ HG2.out.2 | exact HCP.out _ HG3.out.2)
            (first
              | (go_at_call 52; (fail_if_success (first | have _x := HG1 | fail)); refine (int_v u3 (stB3 s m) p.1 _ (HVP.out.keep ((Ex.refl _ _ wp).drew) (Nat.le_refl _)).sl (by have := stB3_len HT.out m; omega)).mono ?_; rintro e wg1 ⟨ug1, rfl, hh, hex⟩; have HG1 : Hid (ByV wg1 wp.heap.size ug1 (stB3 s m ++ int8 p.1) ∧ Ex wp.heap.size none wp wg1) := ⟨hh.lower (Nat.le_refl _), ((Ex.refl _ _ wp).drew).trans hex (Nat.le_refl _) (by simp)⟩; have hzwg1 : wp.heap.size ≤ wg1.heap.size := HG1.out.2.size; clear hh hex)
              | (go_at_call 52; (fail_if_success (first | have _x := HG2 | fail)); refine (int_v ug1 _ p.2.1 _ HG1.out.1.sl (by have := stB3_len HT.out m; rw [List.length_append, int8_len]; omega)).mono ?_; rintro e wg2 ⟨ug2, rfl, hh, hex⟩; have HG2 : Hid (ByV wg2 wp.heap.size ug2 ((stB3 s m ++ int8 p.1) ++ int8 p.2.1) ∧ Ex wp.heap.size none wp wg2) := ⟨hh.lower hzwg1, HG1.out.2.trans hex hzwg1 (by simp)⟩; have hzwg2 : wp.heap.size ≤ wg2.heap.size := HG2.out.2.size; clear hh hex)
              | (go_at_call 53; (fail_if_success (first | have _x := HG3 | fail)); refine (text_v ug2 _ p.2.2 _ HG2.out.1.sl (by have := stB3_len HT.out m; rw [List.length_append, List.length_append, int8_len, int8_len]; omega) (by have := HPS.out; omega)).mono ?_; rintro e wg3 ⟨ug3, rfl, hh, hex⟩; have HG3 : Hid (ByV wg3 wp.heap.size ug3 (stB3 s (m + 1)) ∧ Ex wp.heap.size none wp wg3) := ⟨by rw [stB3_succ s m p HP.out]; exact hh.lower hzwg2, HG2.out.2.trans hex hzwg2 (by simp)⟩; have hzwg3 : wp.heap.size ≤ wg3.heap.size := HG3.out.2.size; clear hh hex)
              | fail)
          clear HG1 HG2 hzwg1 hzwg2
          go_wp2
          go_roundw
          case rel => exact ⟨m + 1, by omega, by go_num, Lib.hid (HG3.out.1.lower hzp), HEP.out.trans HG3.out.2 hzp (by simp)⟩
          case measure => simp [intOf] <;> omega
        · have hltI : ¬ (m : Int) < (pn : Int) := by omega
          have HMN : Hid (m = s.pins.length) := (show _ = _ by have := HPN.out; omega)
          obtain ⟨d0, d1, d2, d3, d4, d5, d6, d7, d8, d9, d10, d11, d12⟩ := HC.out _ HEI.out
          go_wp2_with (go_at_call 53; refine (text_v _ _ s.body _ hv.out.sl (by have := stB3_len HT.out m; omega) (by have := HT.out.body; omega)).mono ?_; rintro e w9 ⟨u9, rfl, hh, hex9⟩)
          go_ret
          exact ⟨_, rfl, by rw [stB_eq, ← HMN.out]; exact hh.lower (by omega), HE0.out.trans (HEI.out.trans hex9 hszi (by simp)) (by omega) (by simp)⟩
end Go.Proofs.Ytaakacahblndcaa

namespace Go.Proofs.Ytaakacahblndcaa
open Go.RowKit Go.Sort

set_option maxHeartbeats 4000000 in
set_option maxRecDepth 100000 in
theorem digestP_any {P : Nat → Prop} (s : St) (lo po : Option Addr) (ln lc pn pc : Nat) (w : World) (hs : Lies P w (s, ⟨lo, ln, lc⟩, ⟨po, pn, pc⟩)) (ht : Tame s) :
    Calls Try.prog 18 #[.agg #[.int .i64 s.author, .int .i64 s.number, .string s.prev, .int .i64 s.time, .int .i64 s.kind, .int .i64 s.a, .int .i64 s.b, .int .i64 s.c, .slice lo ln lc, .slice po pn pc, .string s.body, .int .i64 s.key, .string s.dig]] w fun e w' => e = .returned (.string (sha (stB s))) ∧ Ex w.heap.size none w w' := by
  have HT := Lib.hid ht
  have HLS := Lib.hid hs
  clear hs ht
  obtain ⟨w0, hw0⟩ : ∃ w0 : World, w0 = w.alloc (.cells #[.int .i64 s.author, .int .i64 s.number, .string s.prev, .int .i64 s.time, .int .i64 s.kind, .int .i64 s.a, .int .i64 s.b, .int .i64 s.c, .slice lo ln lc, .slice po pn pc, .string s.body, .int .i64 s.key, .string s.dig] 33) := ⟨_, rfl⟩
  have hz0 : w.heap.size < w0.heap.size := by rw [hw0]; simp
  have HE0 : Hid (Ex w.heap.size none w w0) := by rw [hw0]; exact Ex.new w _
  obtain ⟨⟨d0, d1, d2, d3, d4, d5, d6, d7, d8, d9, d10, d11, d12⟩, fz⟩ := st_block (w := w0) (g := w.heap.size) (by rw [hw0]; exact heap_alloc_new w _)
  go_enter Try.func18, Try.ntmps18
  go_upto_region 1 with (fail)
  rw [← hw0]
  clear hw0
  have hlen : (stB s).length ≤ 5000000 := by
    have h1 := stB3_len HT.out s.pins.length
    have h2 := HT.out.body
    rw [stB_eq, List.length_append, List.length_append, int8_len, strL_len]; omega
  go_wp2_with (first
    | (go_at_call 32
       refine (bytesP_any s lo po ln lc pn pc w0 (HLS.out.keep fun b _ hb => HE0.out.block b hb (by simp)) HT.out).mono ?_
       rintro e w1 ⟨v1, rfl, hv, hex⟩
       have H1 : Hid (ByV w1 w0.heap.size v1 (stB s) ∧ Ex w.heap.size none w w1) := Lib.hid ⟨hv, HE0.out.trans hex (by omega) (by simp)⟩
       have hz1 : w0.heap.size ≤ w1.heap.size := hex.size
       clear hv hex d0 d1 d2 d3 d4 d5 d6 d7 d8 d9 d10 d11 d12 fz)
    | (go_at_call 31
       refine (sumP_any v1 (stB s) w1 H1.out.1.sl hlen).mono ?_
       rintro e w2 ⟨rfl, hex⟩
       have H2 : Hid (Ex w.heap.size none w w2) := Lib.hid (H1.out.2.trans hex (by omega) (by simp))
       clear hex)
    | fail)
  go_ret
  exact ⟨rfl, H2.out⟩

set_option maxHeartbeats 4000000 in
set_option maxRecDepth 100000 in
theorem sealedP_any {P : Nat → Prop} (s : St) (lo po : Option Addr) (ln lc pn pc : Nat) (w : World) (hs : Lies P w (s, ⟨lo, ln, lc⟩, ⟨po, pn, pc⟩)) (ht : Tame s) :
    Calls Try.prog 41 #[.agg #[.int .i64 s.author, .int .i64 s.number, .string s.prev, .int .i64 s.time, .int .i64 s.kind, .int .i64 s.a, .int .i64 s.b, .int .i64 s.c, .slice lo ln lc, .slice po pn pc, .string s.body, .int .i64 s.key, .string s.dig]] w fun e w' => e = .returned (.bool (sealedB s)) ∧ Ex w.heap.size none w w' := by
  have HT := Lib.hid ht
  have HLS := Lib.hid hs
  clear hs ht
  obtain ⟨w0, hw0⟩ : ∃ w0 : World, w0 = w.alloc (.cells #[.int .i64 s.author, .int .i64 s.number, .string s.prev, .int .i64 s.time, .int .i64 s.kind, .int .i64 s.a, .int .i64 s.b, .int .i64 s.c, .slice lo ln lc, .slice po pn pc, .string s.body, .int .i64 s.key, .string s.dig] 33) := ⟨_, rfl⟩
  have hz0 : w.heap.size < w0.heap.size := by rw [hw0]; simp
  have HE0 : Hid (Ex w.heap.size none w w0) := by rw [hw0]; exact Ex.new w _
  have HC : Hid (∀ p : ExW w0, p.w'.cell? ⟨w.heap.size, 0, none⟩ = some (.int .i64 s.author) ∧ p.w'.cell? ⟨w.heap.size, 1, none⟩ = some (.int .i64 s.number) ∧ p.w'.cell? ⟨w.heap.size, 2, none⟩ = some (.string s.prev) ∧ p.w'.cell? ⟨w.heap.size, 3, none⟩ = some (.int .i64 s.time) ∧ p.w'.cell? ⟨w.heap.size, 4, none⟩ = some (.int .i64 s.kind) ∧ p.w'.cell? ⟨w.heap.size, 5, none⟩ = some (.int .i64 s.a) ∧ p.w'.cell? ⟨w.heap.size, 6, none⟩ = some (.int .i64 s.b) ∧ p.w'.cell? ⟨w.heap.size, 7, none⟩ = some (.int .i64 s.c) ∧ p.w'.cell? ⟨w.heap.size, 8, none⟩ = some (.slice lo ln lc) ∧ p.w'.cell? ⟨w.heap.size, 9, none⟩ = some (.slice po pn pc) ∧ p.w'.cell? ⟨w.heap.size, 10, none⟩ = some (.string s.body) ∧ p.w'.cell? ⟨w.heap.size, 11, none⟩ = some (.int .i64 s.key) ∧ p.w'.cell? ⟨w.heap.size, 12, none⟩ = some (.string s.dig)) := fun p => (st_block ((p.ex.block w.heap.size hz0 (by simp)).trans (by rw [hw0]; exact heap_alloc_new w _))).1
  obtain ⟨dg, hdg⟩ : ∃ dg, dg = sha (stB s) := ⟨_, rfl⟩
  have HDC : Hid (∀ p : ExW w0, Calls Try.prog 18 #[.agg #[.int .i64 s.author, .int .i64 s.number, .string s.prev, .int .i64 s.time, .int .i64 s.kind, .int .i64 s.a, .int .i64 s.b, .int .i64 s.c, .slice lo ln lc, .slice po pn pc, .string s.body, .int .i64 s.key, .string s.dig]] p.w' fun e w' => e = .returned (.string dg) ∧ Ex p.w'.heap.size none p.w' w') := fun p => by
    rw [hdg]
    exact digestP_any s lo po ln lc pn pc p.w' (HLS.out.keep fun b _ hb => (p.ex.block b (by omega) (by simp)).trans (HE0.out.block b hb (by simp))) HT.out
  have HSB : Hid (sealedB s = (decide (s.key = s.author) && decide (s.dig = dg))) := Lib.hid (by rw [hdg]; rfl)
  clear hdg
  go_enter Try.func41, Try.ntmps41
  go_upto_region 1 with (fail)
  rw [← hw0]
  clear hw0
  have hq := HC.out
  have hsl := seal_eql s.key s.author s.dig dg
  rw [← HSB.out] at hsl
  refine wp_region_quiet_ex (by kernel_rfl) (by kernel_rfl) ?_
  repeat (go_big_quiet_step ((go_at_call 18; refine calls_ex_of (HDC.out _))))
  refine wpQuiet_nil ?_
  intro _ hw'
  obtain ⟨p9, hw''⟩ := hw'
  subst hw''
  go_wp2
  go_ret
  exact ⟨rfl, HE0.out.trans p9.ex (by omega) (by simp)⟩
end Go.Proofs.Ytaakacahblndcaa

namespace Go.Proofs.Ytaakacahblndcaa
open Go.RowKit Go.Sort

set_option maxHeartbeats 8000000 in
set_option maxRecDepth 100000 in
theorem sealP_any {P : Nat → Prop} (s : St) (lo po : Option Addr) (ln lc pn pc : Nat) (w : World) (hs : Lies P w (s, ⟨lo, ln, lc⟩, ⟨po, pn, pc⟩)) (ht : Tame s) :
    Calls Try.prog 19 #[.agg #[.int .i64 s.author, .int .i64 s.number, .string s.prev, .int .i64 s.time, .int .i64 s.kind, .int .i64 s.a, .int .i64 s.b, .int .i64 s.c, .slice lo ln lc, .slice po pn pc, .string s.body, .int .i64 s.key, .string s.dig]] w fun e w' => ∃ (la : Option Addr) (na ca : Nat) (pa : Option Addr) (np cp : Nat), e = .returned (.agg #[.int .i64 s.author, .int .i64 s.number, .string s.prev, .int .i64 s.time, .int .i64 s.kind, .int .i64 s.a, .int .i64 s.b, .int .i64 s.c, .slice la na ca, .slice pa np cp, .string s.body, .int .i64 s.author, .string (sha (stB s))]) ∧ Lies (fun b => w.heap.size ≤ b) w' (sealS s, ⟨la, na, ca⟩, ⟨pa, np, cp⟩) ∧ Ex w.heap.size none w w' := by
  have HLS := Lib.hid hs
  have HT := Lib.hid ht
  have HM : Hid (s.list.length ≤ 1000000 ∧ s.pins.length ≤ 1000000) := Lib.hid ⟨by have := ht.list; omega, by have := ht.pins; omega⟩
  clear hs ht
  obtain ⟨w0, hw0⟩ : ∃ w0 : World, w0 = (w.alloc (.cells #[.int .i64 s.author, .int .i64 s.number, .string s.prev, .int .i64 s.time, .int .i64 s.kind, .int .i64 s.a, .int .i64 s.b, .int .i64 s.c, .slice lo ln lc, .slice po pn pc, .string s.body, .int .i64 s.key, .string s.dig] 33)).alloc (.cells #[.int .i64 0, .int .i64 0, .string ⟨#[]⟩, .int .i64 0, .int .i64 0, .int .i64 0, .int .i64 0, .int .i64 0, .slice none 0 0, .slice none 0 0, .string ⟨#[]⟩, .int .i64 0, .string ⟨#[]⟩] 33) := ⟨_, rfl⟩
  have hz0 : w0.heap.size = w.heap.size + 2 := by rw [hw0]; simp
  have HE0 : Hid (Ex w.heap.size none w w0) := by rw [hw0]; exact ex_two0 _ _
  have HB0 : Hid (w0.heap[w.heap.size]? = some (.cells #[.int .i64 s.author, .int .i64 s.number, .string s.prev, .int .i64 s.time, .int .i64 s.kind, .int .i64 s.a, .int .i64 s.b, .int .i64 s.c, .slice lo ln lc, .slice po pn pc, .string s.body, .int .i64 s.key, .string s.dig] 33 (0, 0)) ∧ w0.heap[w.heap.size + 1]? = some (.cells #[.int .i64 0, .int .i64 0, .string ⟨#[]⟩, .int .i64 0, .int .i64 0, .int .i64 0, .int .i64 0, .int .i64 0, .slice none 0 0, .slice none 0 0, .string ⟨#[]⟩, .int .i64 0, .string ⟨#[]⟩] 33 (0, 0))) := Lib.hid (by
    rw [hw0]
    exact ⟨((Ex.new _ _).block w.heap.size (by simp) (by simp)).trans (heap_alloc_new w _), by have := heap_alloc_new (w.alloc (.cells #[.int .i64 s.author, .int .i64 s.number, .string s.prev, .int .i64 s.time, .int .i64 s.kind, .int .i64 s.a, .int .i64 s.b, .int .i64 s.c, .slice lo ln lc, .slice po pn pc, .string s.body, .int .i64 s.key, .string s.dig] 33)) (.cells #[.int .i64 0, .int .i64 0, .string ⟨#[]⟩, .int .i64 0, .int .i64 0, .int .i64 0, .int .i64 0, .int .i64 0, .slice none 0 0, .slice none 0 0, .string ⟨#[]⟩, .int .i64 0, .string ⟨#[]⟩] 33); simpa using this⟩)
  go_enter Try.func19, Try.ntmps19
  go_upto_region 1 with (fail)
  rw [← hw0]
  clear hw0
  obtain ⟨⟨d0, d1, d2, d3, d4, d5, d6, d7, d8, d9, d10, d11, d12⟩, fz⟩ := st_block HB0.out.1
  go_region_law (first
    | (go_simp
       go_at_call 29
       refine (cloneInts_any lo ln lc s.list _ (by first | exact HLS.out.1.keep (by decide) (fun b _ hb => (HE0.out.drew).block b hb (by simp)) | exact HLS.out.1.keep (by decide) (fun b _ hb => ((HEP.out).drew).block b hb (by simp)) | exact HLS.out.1.keep (by decide) (fun b _ hb => HEP.out.block b hb (by simp))) HM.out.1).mono ?_
       rintro e wi ⟨la, na, ca, rfl, hli, hexi⟩
       have HLI := Lib.hid hli
       have HXI := Lib.hid hexi
       have zi : w.heap.size + 2 ≤ wi.heap.size := Nat.le_trans (by first | exact (Nat.le_of_eq hz0.symm) | exact zp) hexi.size
       have HEI : Hid (Ex w.heap.size none w wi) := (by first | exact (HE0.out.drew).trans hexi (by simp; omega) (by simp) | exact ((HEP.out).drew).trans hexi (by simp; omega) (by simp) | exact HEP.out.trans hexi (by omega) (by simp))
       have HBI : Hid (wi.heap[w.heap.size]? = w0.heap[w.heap.size]? ∧ wi.heap[w.heap.size + 1]? = w0.heap[w.heap.size + 1]?) := (by first | exact ⟨hexi.block w.heap.size (by simp; omega) (by simp), hexi.block (w.heap.size + 1) (by simp; omega) (by simp)⟩ | exact ⟨(hexi.block w.heap.size (by omega) (by simp)).trans HBP.out.1, (hexi.block (w.heap.size + 1) (by omega) (by simp)).trans HBP.out.2⟩)
       have bi := st_block (HBI.out.1.trans HB0.out.1)
       obtain ⟨⟨d0', d1', d2', d3', d4', d5', d6', d7', d8', d9', d10', d11', d12'⟩, fz'⟩ := bi
       clear hli hexi)
    | (go_simp
       go_at_call 30
       refine (clonePins_any po pn pc s.pins _ (by first | exact HLS.out.2.keep (by decide) (fun b _ hb => (HE0.out.drew).block b hb (by simp)) | exact HLS.out.2.keep (by decide) (fun b _ hb => ((HEI.out).drew).block b hb (by simp)) | exact HLS.out.2.keep (by decide) (fun b _ hb => HEI.out.block b hb (by simp))) HM.out.2).mono ?_
       rintro e wp ⟨pa, np, cp, rfl, hlp, hexp⟩
       have HLP := Lib.hid hlp
       have HXP := Lib.hid hexp
       have zp : w.heap.size + 2 ≤ wp.heap.size := Nat.le_trans (by first | exact (Nat.le_of_eq hz0.symm) | exact zi) hexp.size
       have HEP : Hid (Ex w.heap.size none w wp) := (by first | exact (HE0.out.drew).trans hexp (by simp; omega) (by simp) | exact ((HEI.out).drew).trans hexp (by simp; omega) (by simp) | exact HEI.out.trans hexp (by omega) (by simp))
       have HBP : Hid (wp.heap[w.heap.size]? = w0.heap[w.heap.size]? ∧ wp.heap[w.heap.size + 1]? = w0.heap[w.heap.size + 1]?) := (by first | exact ⟨hexp.block w.heap.size (by simp; omega) (by simp), hexp.block (w.heap.size + 1) (by simp; omega) (by simp)⟩ | exact ⟨(hexp.block w.heap.size (by omega) (by simp)).trans HBI.out.1, (hexp.block (w.heap.size + 1) (by omega) (by simp)).trans HBI.out.2⟩)
       have bp := st_block (HBP.out.1.trans HB0.out.1)
       obtain ⟨⟨d0', d1', d2', d3', d4', d5', d6', d7', d8', d9', d10', d11', d12'⟩, fz'⟩ := bp
       clear hlp hexp))
  all_goals
    have hLi : Sl intRep (fun b => w.heap.size + 2 ≤ b) wi (.slice la na ca) s.list := HLI.out.mono (by decide) (fun b hb _ => Nat.le_trans (by simp; omega) hb)
    have hLp : Sl pinRep (fun b => w.heap.size + 2 ≤ b) wp (.slice pa np cp) s.pins := HLP.out.mono (by decide) (fun b hb _ => Nat.le_trans zi hb)
    have hLi2 := hLi.keep (w' := (wp.setCell ⟨w.heap.size, 8, none⟩ (.slice la na ca)).setCell ⟨w.heap.size, 9, none⟩ (.slice pa np cp)) (by decide) (fun b hb hlt => set_far (by omega) (set_far (by omega) (HXP.out.block b hlt (by simp))))
    have hLp2 := hLp.keep (w' := (wp.setCell ⟨w.heap.size, 8, none⟩ (.slice la na ca)).setCell ⟨w.heap.size, 9, none⟩ (.slice pa np cp)) (by decide) (fun b hb hlt => set_far (by omega) (set_far (by omega) rfl))
    have hEW := (HEP.out.setCell 8 none (.slice la na ca) (.inr (Nat.le_refl _))).setCell 9 none (.slice pa np cp) (.inr (Nat.le_refl _))
    have hBW := fin_block la pa na ca np cp (HBP.out.1.trans HB0.out.1)
    have hBZ : ((wp.setCell ⟨w.heap.size, 8, none⟩ (.slice la na ca)).setCell ⟨w.heap.size, 9, none⟩ (.slice pa np cp)).heap[w.heap.size + 1]? = some (.cells #[.int .i64 0, .int .i64 0, .string ⟨#[]⟩, .int .i64 0, .int .i64 0, .int .i64 0, .int .i64 0, .int .i64 0, .slice none 0 0, .slice none 0 0, .string ⟨#[]⟩, .int .i64 0, .string ⟨#[]⟩] 33 (0, 0)) := by
      iterate 2 refine set_far (by omega) ?_
      exact HBP.out.2.trans HB0.out.2
    have hzW0 : w.heap.size + 2 ≤ ((wp.setCell ⟨w.heap.size, 8, none⟩ (.slice la na ca)).setCell ⟨w.heap.size, 9, none⟩ (.slice pa np cp)).heap.size := by
      have h1 := HEP.out.size
      have h2 := (Array.getElem?_eq_some_iff.1 (HBP.out.2.trans HB0.out.2)).1
      have h3 : w.heap.size + 1 < wp.heap.size := by simpa using h2
      rw [show ((wp.setCell ⟨w.heap.size, 8, none⟩ (.slice la na ca)).setCell ⟨w.heap.size, 9, none⟩ (.slice pa np cp)).heap.size = wp.heap.size by simp [World.setCell]]
      omega
    obtain ⟨W, hW⟩ : ∃ W, W = (wp.setCell ⟨w.heap.size, 8, none⟩ (.slice la na ca)).setCell ⟨w.heap.size, 9, none⟩ (.slice pa np cp) := ⟨_, rfl⟩
    rw [← hW] at hLi2 hLp2 hEW hBW hBZ hzW0 ⊢
    have hzW := hzW0
    clear hzW0
    clear hW hLi hLp HLI HLP HEP HXP HBP HBI HEI HXI d0' d1' d2' d3' d4' d5' d6' d7' d8' d9' d10' d11' d12' fz' d0 d1 d2 d3 d4 d5 d6 d7 d8 d9 d10 d11 d12 fz
    have HL4 : Hid (Lies (fun b => w.heap.size + 2 ≤ b) W (s, ⟨la, na, ca⟩, ⟨pa, np, cp⟩)) := Lib.hid ⟨hLi2, hLp2⟩
    have HE4 := Lib.hid hEW
    have HB4 : Hid (W.heap[w.heap.size + 1]? = some (.cells #[.int .i64 0, .int .i64 0, .string ⟨#[]⟩, .int .i64 0, .int .i64 0, .int .i64 0, .int .i64 0, .int .i64 0, .slice none 0 0, .slice none 0 0, .string ⟨#[]⟩, .int .i64 0, .string ⟨#[]⟩] 33 (0, 0))) := Lib.hid hBZ
    have HBW0 := Lib.hid hBW
    obtain ⟨⟨d0, d1, d2, d3, d4, d5, d6, d7, d8, d9, d10, d11, d12⟩, fz⟩ := st_block hBW
    clear hLi2 hLp2 hEW hBW hBZ
    have HL2 : Hid (Lies (fun b => w.heap.size + 2 ≤ b) W (s, ⟨la, na, ca⟩, ⟨pa, np, cp⟩)) := HL4
    have HE2 := HE4
    have HB2 : Hid (W.heap[w.heap.size]? = some (.cells #[.int .i64 s.author, .int .i64 s.number, .string s.prev, .int .i64 s.time, .int .i64 s.kind, .int .i64 s.a, .int .i64 s.b, .int .i64 s.c, .slice la na ca, .slice pa np cp, .string s.body, .int .i64 s.key, .string (s.dig)] 33 (0, 0)) ∧ W.heap[w.heap.size + 1]? = some (.cells #[.int .i64 0, .int .i64 0, .string ⟨#[]⟩, .int .i64 0, .int .i64 0, .int .i64 0, .int .i64 0, .int .i64 0, .slice none 0 0, .slice none 0 0, .string ⟨#[]⟩, .int .i64 0, .string ⟨#[]⟩] 33 (0, 0))) := Lib.hid ⟨HBW0.out, HB4.out⟩
    have hz2 : w.heap.size + 2 ≤ W.heap.size := hzW
    obtain ⟨w2, hw2⟩ : ∃ w2 : World, w2 = W := ⟨_, rfl⟩
    rw [← hw2] at HL2 HE2 HB2 hz2 ⊢
    clear hw2 HL4 HE4 HB4 HBW0
    clear d0 d1 d2 d3 d4 d5 d6 d7 d8 d9 d10 d11 d12 fz
    obtain ⟨⟨d0, d1, d2, d3, d4, d5, d6, d7, d8, d9, d10, d11, d12⟩, fz⟩ := st_block HB2.out.1
    go_upto_region 2 with (fail)
    go_region_with
      (first
        | (go_at_call 18
           (refine (digestP_any s la pa na ca np cp w2.drew (HL2.out.keep (w' := w2.drew) fun _ _ _ => rfl) HT.out).mono ?_)
           rintro e w3 ⟨rfl, hex3⟩
           (have HE3 : Hid (Ex w2.heap.size none w2 w3) := Lib.hid ((Ex.refl _ _ w2).drew.trans hex3 (Nat.le_refl _) (by simp)))
           have hb3 : w3.heap[w.heap.size]? = some (.cells #[.int .i64 s.author, .int .i64 s.number, .string s.prev, .int .i64 s.time, .int .i64 s.kind, .int .i64 s.a, .int .i64 s.b, .int .i64 s.c, .slice la na ca, .slice pa np cp, .string s.body, .int .i64 s.key, .string (s.dig)] 33 (0, 0)) := (HE3.out.block _ (by omega) (by simp)).trans HB2.out.1
           clear hex3
           obtain ⟨⟨g0, g1, g2, g3, g4, g5, g6, g7, g8, g9, g10, g11, g12⟩, gz⟩ := st_block hb3
           clear hb3)
        | fail)
    all_goals (
      obtain ⟨w4, hw4⟩ : ∃ w4 : World, w4 = ((w3.setCell ⟨w.heap.size, 11, none⟩ (.int .i64 s.author)).setCell ⟨w.heap.size, 12, none⟩ (.string (sha (stB s)))) := ⟨_, rfl⟩
      have HB4 : Hid (w4.heap[w.heap.size]? = some (.cells #[.int .i64 s.author, .int .i64 s.number, .string s.prev, .int .i64 s.time, .int .i64 s.kind, .int .i64 s.a, .int .i64 s.b, .int .i64 s.c, .slice la na ca, .slice pa np cp, .string s.body, .int .i64 s.author, .string (sha (stB s))] 33 (0, 0)) ∧ w4.heap[w.heap.size + 1]? = some (.cells #[.int .i64 0, .int .i64 0, .string ⟨#[]⟩, .int .i64 0, .int .i64 0, .int .i64 0, .int .i64 0, .int .i64 0, .slice none 0 0, .slice none 0 0, .string ⟨#[]⟩, .int .i64 0, .string ⟨#[]⟩] 33 (0, 0))) := Lib.hid (by
        rw [hw4]
        refine ⟨?_, ?_⟩
        · rw [heap_setCell_same _ _ _ _ _ _ (heap_setCell_same _ _ _ _ _ _ ((HE3.out.block _ (by omega) (by simp)).trans HB2.out.1))]; rfl
        · iterate 2 refine set_far (by omega) ?_
          exact (HE3.out.block _ (by omega) (by simp)).trans HB2.out.2)
      have HE4 : Hid (Ex w.heap.size none w w4) := Lib.hid (by
        rw [hw4]
        iterate 2 refine Ex.setCell ?_ _ none _ (Or.inr (Nat.le_refl _))
        exact HE2.out.trans HE3.out (by omega) (by simp))
      have HL4 : Hid (Lies (fun b => w.heap.size + 2 ≤ b) w4 (sealS s, ⟨la, na, ca⟩, ⟨pa, np, cp⟩)) := Lib.hid (by
        rw [hw4]
        have h3 : Lies (fun b => w.heap.size + 2 ≤ b) w3 (s, ⟨la, na, ca⟩, ⟨pa, np, cp⟩) := HL2.out.keep fun b _ hb => HE3.out.block b hb (by simp)
        exact Lies.keep (w := w3) h3 fun b h1 _ => by
          iterate 2 refine set_far (by omega) ?_
          rfl)
      rw [← hw4]
      clear hw4 HL2 HB2 g0 g1 g2 g3 g4 g5 g6 g7 g8 g9 g10 g11 g12 gz d0 d1 d2 d3 d4 d5 d6 d7 d8 d9 d10 d11 d12 fz
      obtain ⟨⟨d0, d1, d2, d3, d4, d5, d6, d7, d8, d9, d10, d11, d12⟩, fz⟩ := st_block (s := sealS s) HB4.out.1
      go_wp2_with (first
        | (refine wpList_store_rowTo rfl 33 (.tmp 2) (.tmp 17) rfl rfl (w.heap.size + 1) #[.int .i64 s.author, .int .i64 s.number, .string s.prev, .int .i64 s.time, .int .i64 s.kind, .int .i64 s.a, .int .i64 s.b, .int .i64 s.c, .slice la na ca, .slice pa np cp, .string s.body, .int .i64 s.author, .string (sha (stB s))] (by rfl) (by rfl) 33 #[.int .i64 0, .int .i64 0, .string ⟨#[]⟩, .int .i64 0, .int .i64 0, .int .i64 0, .int .i64 0, .int .i64 0, .slice none 0 0, .slice none 0 0, .string ⟨#[]⟩, .int .i64 0, .string ⟨#[]⟩] HB4.out.2 Try.sizeSt rfl (by simp [Value.oneCell']) ?_))
      obtain ⟨w5, hw5⟩ : ∃ w5 : World, w5 = w4.setRow (w.heap.size + 1) #[.int .i64 s.author, .int .i64 s.number, .string s.prev, .int .i64 s.time, .int .i64 s.kind, .int .i64 s.a, .int .i64 s.b, .int .i64 s.c, .slice la na ca, .slice pa np cp, .string s.body, .int .i64 s.author, .string (sha (stB s))] := ⟨_, rfl⟩
      have HE5 : Hid (Ex w.heap.size none w w5) := Lib.hid (by
        rw [hw5]
        exact HE4.out.setRow _ _ (.inr (by omega)))
      have HL5 : Hid (Lies (fun b => w.heap.size + 2 ≤ b) w5 (sealS s, ⟨la, na, ca⟩, ⟨pa, np, cp⟩)) := Lib.hid (by
        rw [hw5]
        exact HL4.out.keep fun b h1 _ => setRow_other _ _ _ _ (by omega))
      have hb5 : w5.heap[w.heap.size + 1]? = some (.cells #[.int .i64 s.author, .int .i64 s.number, .string s.prev, .int .i64 s.time, .int .i64 s.kind, .int .i64 s.a, .int .i64 s.b, .int .i64 s.c, .slice la na ca, .slice pa np cp, .string s.body, .int .i64 s.author, .string (sha (stB s))] 33 (0, 0)) := by rw [hw5]; exact setRow_heap _ _ _ _ _ _ HB4.out.2
      rw [← hw5]
      clear hw5 HB4 HL4 d0 d1 d2 d3 d4 d5 d6 d7 d8 d9 d10 d11 d12 fz
      obtain ⟨⟨d0, d1, d2, d3, d4, d5, d6, d7, d8, d9, d10, d11, d12⟩, fz⟩ := st_block (s := sealS s) hb5
      refine bodyPost_ret (v := .agg #[.int .i64 s.author, .int .i64 s.number, .string s.prev, .int .i64 s.time, .int .i64 s.kind, .int .i64 s.a, .int .i64 s.b, .int .i64 s.c, .slice la na ca, .slice pa np cp, .string s.body, .int .i64 s.author, .string (sha (stB s))]) (by simp [results, Try.results19, go_sem, d0, d1, d2, d3, d4, d5, d6, d7, d8, d9, d10, d11, d12, sealS]) rfl ?_
      exact ⟨la, na, ca, pa, np, cp, rfl, HL5.out.mono fun b h _ => by omega, HE5.out⟩)

end Go.Proofs.Ytaakacahblndcaa

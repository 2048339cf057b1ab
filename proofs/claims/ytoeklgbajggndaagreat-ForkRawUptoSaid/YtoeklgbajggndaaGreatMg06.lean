/- ref03.Bytes, Digest, Sealed, Seal: contracts, no statement of the seat. | ref03.Bytes: a contract, no statement of the seat. | What a right statement is: plain. No statement of the seat. | What is read off bytes: numbers, texts, lists, statements; and that bytes which are read so are those that are written. Plain, no program in sight. | wire.TakeInt, TakeText, TakeInts and the document's: contracts. No statement of the seat. | wire.TakeText and ref02.TakeText: contracts. No statement of the seat. -/
import Derived.Test.YtoeklgbajggndaaGreatSum01G
import Derived.Test.YtoeklgbajggndaaGreatMg05
import Derived.Test.YtoeklgbajggndaaGreatMg03
import Derived.Deep.Cut
import Derived.Deep.RegionHeld3
import Derived.Laws.BitsAllLaws
import Derived.BigQuiet
import Derived.OwnWalk
namespace Go.Proofs.YtoeklgbajggndaaGreat
open Go.RowKit Go.Sort

def pinL (p : PinD) : List UInt8 := int8 p.1 ++ int8 p.2.1 ++ int8 p.2.2.size ++ strL p.2.2
def pinsL (l : List PinD) : List UInt8 := l.flatMap pinL
/-- A statement's bytes. -/
def stB (s : St) : List UInt8 :=
  (((((((((((((int8 s.author ++ int8 s.number) ++ int8 s.prev.size) ++ strL s.prev) ++ int8 s.time) ++ int8 s.kind) ++ int8 s.a) ++ int8 s.b) ++ int8 s.c) ++ int8 s.list.length) ++ intsB s.list) ++ int8 s.pins.length) ++ pinsL s.pins) ++ int8 s.body.size) ++ strL s.body
theorem pinsL_len (l : List PinD) (h : ∀ p ∈ l, p.2.2.size ≤ 1000) : (pinsL l).length ≤ l.length * 1024 := by
  induction l with
  | nil => simp [pinsL]
  | cons p r ih =>
    have h1 := h p (by simp)
    have h2 := ih fun q hq => h q (by simp [hq])
    simp only [pinsL, List.flatMap_cons, List.length_append, pinL, int8_len, strL_len, List.length_cons] at *
    omega
theorem pinsL_take (l : List PinD) (k : Nat) : (pinsL (l.take k)).length ≤ (pinsL l).length := by
  have h : pinsL l = pinsL (l.take k) ++ pinsL (l.drop k) := by rw [pinsL, pinsL, pinsL, ← List.flatMap_append, List.take_append_drop]
  rw [h, List.length_append]; omega
theorem pinsL_mem {l : List PinD} {p : PinD} (hp : p ∈ l) : p.2.2.size ≤ (pinsL l).length := by
  induction l with
  | nil => cases hp
  | cons q r ih =>
    simp only [pinsL, List.flatMap_cons, List.length_append, pinL, strL_len] at *
    rcases List.mem_cons.1 hp with rfl | h
    · omega
    · have := ih h; omega
/-- No part of it is great. -/
structure Tame (s : St) : Prop where
  list : s.list.length ≤ 10000
  pins : s.pins.length ≤ 1000
  prev : s.prev.size ≤ 100000
  body : s.body.size ≤ 100000
  digs : (pinsL s.pins).length ≤ 1200000
theorem Tame.dig {s : St} (h : Tame s) {p : PinD} (hp : p ∈ s.pins) : p.2.2.size ≤ 1200000 := Nat.le_trans (pinsL_mem hp) h.digs
theorem digs_of {s : St} (hn : s.pins.length ≤ 1000) (h : ∀ p ∈ s.pins, p.2.2.size ≤ 1000) : (pinsL s.pins).length ≤ 1200000 := by have := pinsL_len s.pins h; omega
end Go.Proofs.YtoeklgbajggndaaGreat

namespace Go.Proofs.YtoeklgbajggndaaGreat
open Go.RowKit Go.Sort

/-- What a statement's bytes begin with. -/
def stB0 (s : St) : List UInt8 := ((int8 s.author ++ int8 s.number) ++ int8 s.prev.size) ++ strL s.prev
def five (s : St) : List Int := [s.time, s.kind, s.a, s.b, s.c]
def stB1 (s : St) (k : Nat) : List UInt8 := stB0 s ++ ((five s).take k).flatMap int8
def stB2 (s : St) : List UInt8 := ((stB1 s 5 ++ int8 s.list.length) ++ intsB s.list) ++ int8 s.pins.length
def stB3 (s : St) (k : Nat) : List UInt8 := stB2 s ++ pinsL (s.pins.take k)
theorem stB_eq (s : St) : stB s = (stB3 s s.pins.length ++ int8 s.body.size) ++ strL s.body := by
  simp only [stB, stB3, stB2, stB1, stB0, List.take_length, five, List.flatMap_cons, List.flatMap_nil, List.take_succ_cons, List.take_zero, List.append_assoc, List.append_nil]
theorem stB1_succ (s : St) (k : Nat) (hk : k < 5) : stB1 s (k + 1) = stB1 s k ++ int8 ((five s).getD k 0) := by
  unfold stB1
  rw [take_succ_getD (five s) k hk, List.flatMap_append, List.append_assoc]
  simp only [List.flatMap_cons, List.flatMap_nil, List.append_nil]
theorem stB3_succ (s : St) (k : Nat) (p : PinD) (hp : s.pins[k]? = some p) : stB3 s (k + 1) = (((stB3 s k ++ int8 p.1) ++ int8 p.2.1) ++ int8 p.2.2.size) ++ strL p.2.2 := by
  unfold stB3 pinsL
  rw [List.take_add_one, hp]
  simp [pinL]
theorem flat8_len (l : List Int) : (l.flatMap int8).length = l.length * 8 := intsB_len l
theorem stB0_len (s : St) : (stB0 s).length = 24 + s.prev.size := by simp [stB0, int8_len, strL_len]; omega
theorem stB1_len (s : St) (k : Nat) : (stB1 s k).length ≤ 64 + s.prev.size := by
  have : ((five s).take k).length ≤ 5 := by simp [five]; omega
  simp only [stB1, List.length_append, stB0_len, flat8_len]
  omega
theorem stB2_len (s : St) : (stB2 s).length ≤ 80 + s.prev.size + s.list.length * 8 := by
  have := stB1_len s 5
  simp only [stB2, List.length_append, int8_len, intsB_len]
  omega
theorem stB3_len {s : St} (h : Tame s) (k : Nat) : (stB3 s k).length ≤ 2000000 := by
  have h1 := stB2_len s
  have h2 := pinsL_take s.pins k
  have h7 := h.digs
  have h3 := h.list
  have h4 := h.pins
  have h5 := h.prev
  have h6 : (s.pins.take k).length ≤ 1000 := by simp; omega
  simp only [stB3, List.length_append]
  omega

set_option maxHeartbeats 16000000 in
set_option maxRecDepth 100000 in
theorem bytes03_any {P : Nat → Prop} (s : St) (lo po : Option Addr) (ln lc pn pc : Nat) (w : World) (hs : Lies P w (s, ⟨lo, ln, lc⟩, ⟨po, pn, pc⟩)) (ht : Tame s) :
    Calls Tryz.prog 45 #[.agg #[.int .i64 s.author, .int .i64 s.number, .string s.prev, .int .i64 s.time, .int .i64 s.kind, .int .i64 s.a, .int .i64 s.b, .int .i64 s.c, .slice lo ln lc, .slice po pn pc, .string s.body, .int .i64 s.key, .string s.dig]] w fun e w' => ∃ v, e = .returned v ∧ ByV w' w.heap.size v (stB s) ∧ Ex w.heap.size none w w' := by
  have HT := Lib.hid ht
  have HLS := Lib.hid hs
  have HLN : Hid (ln = s.list.length) := by obtain ⟨⟨_, _, e, _⟩, _⟩ := hs; simp only [Sv.v] at e; cases e; exact rfl
  have HPN : Hid (pn = s.pins.length) := by obtain ⟨_, ⟨_, _, e, _⟩⟩ := hs; simp only [Sv.v] at e; cases e; exact rfl
  have hpn : pn ≤ 1000 := by have := ht.pins; have := HPN.out; omega
  clear hs ht
  obtain ⟨w0, hw0⟩ : ∃ w0 : World, w0 = w.alloc (.cells #[.int .i64 s.author, .int .i64 s.number, .string s.prev, .int .i64 s.time, .int .i64 s.kind, .int .i64 s.a, .int .i64 s.b, .int .i64 s.c, .slice lo ln lc, .slice po pn pc, .string s.body, .int .i64 s.key, .string s.dig] 27) := ⟨_, rfl⟩
  have hz0 : w.heap.size < w0.heap.size := by rw [hw0]; simp
  have HE0 : Hid (Ex w.heap.size none w w0) := by rw [hw0]; exact Ex.new w _
  have HC : Hid (∀ w', Ex w0.heap.size none w0 w' → w'.cell? ⟨w.heap.size, 0, none⟩ = some (.int .i64 s.author) ∧ w'.cell? ⟨w.heap.size, 1, none⟩ = some (.int .i64 s.number) ∧ w'.cell? ⟨w.heap.size, 2, none⟩ = some (.string s.prev) ∧ w'.cell? ⟨w.heap.size, 3, none⟩ = some (.int .i64 s.time) ∧ w'.cell? ⟨w.heap.size, 4, none⟩ = some (.int .i64 s.kind) ∧ w'.cell? ⟨w.heap.size, 5, none⟩ = some (.int .i64 s.a) ∧ w'.cell? ⟨w.heap.size, 6, none⟩ = some (.int .i64 s.b) ∧ w'.cell? ⟨w.heap.size, 7, none⟩ = some (.int .i64 s.c) ∧ w'.cell? ⟨w.heap.size, 8, none⟩ = some (.slice lo ln lc) ∧ w'.cell? ⟨w.heap.size, 9, none⟩ = some (.slice po pn pc) ∧ w'.cell? ⟨w.heap.size, 10, none⟩ = some (.string s.body) ∧ w'.cell? ⟨w.heap.size, 11, none⟩ = some (.int .i64 s.key) ∧ w'.cell? ⟨w.heap.size, 12, none⟩ = some (.string s.dig)) := fun w' h => (st_block ((h.block w.heap.size hz0 (by simp)).trans (by rw [hw0]; exact heap_alloc_new w _))).1
  go_enter Tryz.func45, Tryz.ntmps45
  go_upto_region 1 with (fail)
  rw [← hw0]
  clear hw0
  go_region_held3 (fun w' => w'.cell? ⟨w.heap.size, 0, none⟩ = some (.int .i64 s.author) ∧ w'.cell? ⟨w.heap.size, 1, none⟩ = some (.int .i64 s.number) ∧ w'.cell? ⟨w.heap.size, 2, none⟩ = some (.string s.prev) ∧ w'.cell? ⟨w.heap.size, 3, none⟩ = some (.int .i64 s.time) ∧ w'.cell? ⟨w.heap.size, 4, none⟩ = some (.int .i64 s.kind) ∧ w'.cell? ⟨w.heap.size, 5, none⟩ = some (.int .i64 s.a) ∧ w'.cell? ⟨w.heap.size, 6, none⟩ = some (.int .i64 s.b) ∧ w'.cell? ⟨w.heap.size, 7, none⟩ = some (.int .i64 s.c) ∧ w'.cell? ⟨w.heap.size, 8, none⟩ = some (.slice lo ln lc) ∧ w'.cell? ⟨w.heap.size, 9, none⟩ = some (.slice po pn pc) ∧ w'.cell? ⟨w.heap.size, 10, none⟩ = some (.string s.body) ∧ w'.cell? ⟨w.heap.size, 11, none⟩ = some (.int .i64 s.key) ∧ w'.cell? ⟨w.heap.size, 12, none⟩ = some (.string s.dig)) (first | exact HC.out _ ((Ex.refl _ _ w0).drew) | exact HC.out _ HA.out.2 | exact HC.out _ HB.out.2 | exact HC.out _ HD.out.2)
    (first
      | (go_at_call 88; (fail_if_success (first | have _x := HA | fail)); refine (int02_v (.slice none 0 0) [] s.author _ (Sl.nil (fun _ => True) _) (by simp)).mono ?_; rintro e wa ⟨ua, rfl, hh, hex⟩; have HA : Hid (ByV wa w0.heap.size ua (int8 s.author) ∧ Ex w0.heap.size none w0 wa) := ⟨hh.lower (Nat.le_refl _), ((Ex.refl _ _ w0).drew).trans hex (Nat.le_refl _) (by simp)⟩; have hzwa : w0.heap.size ≤ wa.heap.size := HA.out.2.size; clear hh hex)
      | (go_at_call 88; (fail_if_success (first | have _x := HB | fail)); refine (int02_v ua _ s.number _ HA.out.1.sl (by rw [int8_len]; omega)).mono ?_; rintro e wb ⟨ub, rfl, hh, hex⟩; have HB : Hid (ByV wb w0.heap.size ub (int8 s.author ++ int8 s.number) ∧ Ex w0.heap.size none w0 wb) := ⟨hh.lower hzwa, HA.out.2.trans hex hzwa (by simp)⟩; have hzwb : w0.heap.size ≤ wb.heap.size := HB.out.2.size; clear hh hex)
      | (go_at_call 49; (fail_if_success (first | have _x := HD | fail)); refine (text02_v ub _ s.prev _ HB.out.1.sl (by rw [List.length_append, int8_len, int8_len]; omega) (by have := HT.out.prev; omega)).mono ?_; rintro e wd ⟨ud, rfl, hh, hex⟩; have HD : Hid (ByV wd w0.heap.size ud (stB0 s) ∧ Ex w0.heap.size none w0 wd) := ⟨hh.lower hzwb, HB.out.2.trans hex hzwb (by simp)⟩; have hzwd : w0.heap.size ≤ wd.heap.size := HD.out.2.size; clear hh hex)
      | fail)
  clear HA HB hzwa hzwb
  obtain ⟨d0, d1, d2, d3, d4, d5, d6, d7, d8, d9, d10, d11, d12⟩ := HC.out _ HD.out.2
  go_upto_region 3 with (fail)
  clear d0 d1 d2 d3 d4 d5 d6 d7 d8 d9 d10 d11 d12
  obtain ⟨wf, hwf⟩ : ∃ wf : World, wf = wd.alloc (.cells #[.int .i64 s.time, .int .i64 s.kind, .int .i64 s.a, .int .i64 s.b, .int .i64 s.c] 3) := ⟨_, rfl⟩
  have HF : Hid (IntsAt wf (some ⟨wd.heap.size, 0, none⟩) (five s)) := by rw [hwf]; exact IntsAt.lit wd (five s)
  have HEF : Hid (Ex w0.heap.size none w0 wf) := by rw [hwf]; exact HD.out.2.trans (Ex.new wd _) hzwd (by simp)
  have HVF : Hid (ByV wf w0.heap.size ud (stB1 s 0)) := Lib.hid (by rw [hwf]; simpa [stB1] using HD.out.1.keep (Ex.new wd _) (Nat.le_refl _))
  have hzf : w0.heap.size ≤ wf.heap.size := HEF.out.size
  rw [← hwf]
  clear hwf
  go_loopw [3, 5, 29] (fun v x i wr => ∃ (k : Nat), k ≤ 5 ∧ i = .int .i64 k ∧ Hid (ByV wr w0.heap.size v (stB1 s k)) ∧ Ex wf.heap.size none wf wr) (fun _ _ i _ => 5 - (intOf i).toNat)
  case atStart => exact ⟨0, by omega, rfl, HVF, Ex.refl _ _ _⟩
  case round =>
    obtain ⟨k, hk, rfl, hv, hex⟩ := hrel
    have hsz := hex.size
    have HE := Lib.hid hex
    by_cases hlt : k < 5
    · have hlt5 : (k : Int) < 5 := by omega
      obtain ⟨b, off, y, e9, hck, HY⟩ := (HF.out.keep hex (Nat.le_refl _) (by simp)).get k hlt
      cases e9
      rw [Nat.zero_add] at hck
      clear hex
      go_wp2_with (go_at_call 88; refine (int02_v _ _ y _ hv.out.sl (by have := stB1_len s k; have := HT.out.prev; omega)).mono ?_; rintro e w2 ⟨u2, rfl, hh, hex2⟩; have H2 : Hid (ByV w2 w0.heap.size u2 (stB1 s (k + 1)) ∧ Ex wf.heap.size none wf w2) := ⟨by rw [stB1_succ s k hlt, HY.out]; exact hh.lower (by omega), HE.out.trans hex2 hsz (by simp)⟩; clear hh hex2)
      go_roundw
      case rel => exact ⟨k + 1, by omega, by go_num, H2.out.1, H2.out.2⟩
      case measure => simp [intOf] <;> omega
    · have hk5 : ¬ (k : Int) < 5 := by omega
      have HK5 : Hid (k = 5) := (show k = 5 by omega)
      have HV5 : Hid (ByV wr w0.heap.size u3 (stB1 s 5)) := by rw [← HK5.out]; exact hv.out
      have HE7 : Hid (Ex w0.heap.size none w0 wr) := HEF.out.trans HE.out hzf (by simp)
      have hz7 : w0.heap.size ≤ wr.heap.size := HE7.out.size
      clear hv hex hlt
      obtain ⟨w1, hw1⟩ : ∃ w1, w1 = wr := ⟨_, rfl⟩
      subst hw1
      go_upto_region 7 with (fail)
      go_region_held3 (fun w' => w'.cell? ⟨w.heap.size, 0, none⟩ = some (.int .i64 s.author) ∧ w'.cell? ⟨w.heap.size, 1, none⟩ = some (.int .i64 s.number) ∧ w'.cell? ⟨w.heap.size, 2, none⟩ = some (.string s.prev) ∧ w'.cell? ⟨w.heap.size, 3, none⟩ = some (.int .i64 s.time) ∧ w'.cell? ⟨w.heap.size, 4, none⟩ = some (.int .i64 s.kind) ∧ w'.cell? ⟨w.heap.size, 5, none⟩ = some (.int .i64 s.a) ∧ w'.cell? ⟨w.heap.size, 6, none⟩ = some (.int .i64 s.b) ∧ w'.cell? ⟨w.heap.size, 7, none⟩ = some (.int .i64 s.c) ∧ w'.cell? ⟨w.heap.size, 8, none⟩ = some (.slice lo ln lc) ∧ w'.cell? ⟨w.heap.size, 9, none⟩ = some (.slice po pn pc) ∧ w'.cell? ⟨w.heap.size, 10, none⟩ = some (.string s.body) ∧ w'.cell? ⟨w.heap.size, 11, none⟩ = some (.int .i64 s.key) ∧ w'.cell? ⟨w.heap.size, 12, none⟩ = some (.string s.dig)) (first | exact HC.out _ (HE7.out.drew) | exact HC.out _ HG.out.2 | exact HC.out _ HH.out.2)
        (first
          | (go_at_call 89; (fail_if_success (first | have _x := HG | fail)); refine (ints02_v u3 (.slice lo ln lc) (stB1 s 5) s.list _ (HV5.out.keep ((Ex.refl _ _ w1).drew) (Nat.le_refl _)).sl (sl_ints (HLS.out.keep fun b _ hb => (HE0.out.trans HE7.out (by omega) (by simp)).drew.block b hb (by simp)).1) (by have := stB1_len s 5; have := HT.out.prev; omega) (by have := HT.out.list; omega)).mono ?_; rintro e wg ⟨ug, rfl, hh, hex⟩; have HG : Hid (ByV wg w0.heap.size ug ((stB1 s 5 ++ int8 s.list.length) ++ intsB s.list) ∧ Ex w0.heap.size none w0 wg) := ⟨hh.lower hz7, HE7.out.drew.trans hex hz7 (by simp)⟩; have hzwg : w0.heap.size ≤ wg.heap.size := HG.out.2.size; clear hh hex)
          | (go_at_call 88; (fail_if_success (first | have _x := HH | fail)); refine (int02_v ug _ (pn : Int) _ HG.out.1.sl (by have := stB1_len s 5; have := HT.out.prev; have := HT.out.list; rw [List.length_append, List.length_append, int8_len, intsB_len]; omega)).mono ?_; rintro e wh ⟨uh, rfl, hh, hex⟩; have HH : Hid (ByV wh w0.heap.size uh (stB2 s) ∧ Ex w0.heap.size none w0 wh) := ⟨by unfold stB2; rw [← HPN.out]; exact hh.lower hzwg, HG.out.2.trans hex hzwg (by simp)⟩; have hzwh : w0.heap.size ≤ wh.heap.size := HH.out.2.size; clear hh hex)
          | fail)
      clear HG hzwg HV5
      have HV8 : Hid (ByV wh w0.heap.size uh (stB3 s 0)) := by rw [show stB3 s 0 = stB2 s by simp [stB3, pinsL]]; exact HH.out.1
      go_wp2_with fail
      go_loopw [3, 6, 7] (fun v i q wi => ∃ (k : Nat), k ≤ pn ∧ i = .int .i64 k ∧ Hid (ByV wi w0.heap.size v (stB3 s k)) ∧ Ex w0.heap.size none w0 wi) (fun _ i _ _ => pn - (intOf i).toNat)
      case atStart => exact ⟨0, by omega, rfl, HV8, HH.out.2⟩
      case round =>
        obtain ⟨m, hm, rfl, hv, hex⟩ := hrel
        have hszi := hex.size
        have HEI := Lib.hid hex
        clear hex
        obtain ⟨d0, d1, d2, d3, d4, d5, d6, d7, d8, d9, d10, d11, d12⟩ := HC.out _ HEI.out
        by_cases hlt : m < pn
        · have hltI : (m : Int) < (pn : Int) := by omega
          obtain ⟨b, off, p, hpo, _, hb, c0, c1, c2, HP⟩ := pin_get ((HLS.out.keep fun b _ hb => (HE0.out.trans HEI.out (by omega) (by simp)).block b hb (by simp)).2.at') m (by rw [← HPN.out]; exact hlt)
          subst hpo
          have HPS : Hid (p.2.2.size ≤ 1200000) := HT.out.dig (List.mem_of_getElem? HP.out)
          go_upto_region 12 with (fail)
          clear d0 d1 d2 d3 d4 d5 d6 d7 d8 d9 d10 d11 d12
          obtain ⟨wp, hwp⟩ : ∃ wp : World, wp = wr.alloc (.cells #[.int .i64 p.1, .int .i64 p.2.1, .string p.2.2] 92) := ⟨_, rfl⟩
          have HCP : Hid (∀ w', Ex wp.heap.size none wp w' → w'.cell? ⟨wr.heap.size, 0, none⟩ = some (.int .i64 p.1) ∧ w'.cell? ⟨wr.heap.size, 1, none⟩ = some (.int .i64 p.2.1) ∧ w'.cell? ⟨wr.heap.size, 2, none⟩ = some (.string p.2.2)) := fun w' h => by
            have hb9 : w'.heap[wr.heap.size]? = some (.cells #[.int .i64 p.1, .int .i64 p.2.1, .string p.2.2] 92 (0, 0)) := (h.block wr.heap.size (by rw [hwp]; simp) (by simp)).trans (by rw [hwp]; exact heap_alloc_new wr _)
            exact ⟨cell_of_row _ _ _ _ _ _ hb9, cell_of_row _ _ _ _ _ _ hb9, cell_of_row _ _ _ _ _ _ hb9⟩
          have HEP : Hid (Ex w0.heap.size none w0 wp) := by rw [hwp]; exact HEI.out.trans (Ex.new wr _) hszi (by simp)
          have HVP : Hid (ByV wp w0.heap.size u3 (stB3 s m)) := by rw [hwp]; exact hv.out.keep (Ex.new wr _) (Nat.le_refl _)
          have hzp : w0.heap.size ≤ wp.heap.size := HEP.out.size
          rw [← hwp]
          clear hwp
          go_region_held3 (fun w' => w'.cell? ⟨wr.heap.size, 0, none⟩ = some (.int .i64 p.1) ∧ w'.cell? ⟨wr.heap.size, 1, none⟩ = some (.int .i64 p.2.1) ∧ w'.cell? ⟨wr.heap.size, 2, none⟩ = some (.string p.2.2)) (first | exact HCP.out _ ((Ex.refl _ _ wp).drew) | exact HCP.out _ HG1.out.2 | exact HCP.out _ HG2.out.2 | exact HCP.out _ HG3.out.2)
            (first
              | (go_at_call 88; (fail_if_success (first | have _x := HG1 | fail)); refine (int02_v u3 (stB3 s m) p.1 _ (HVP.out.keep ((Ex.refl _ _ wp).drew) (Nat.le_refl _)).sl (by have := stB3_len HT.out m; omega)).mono ?_; rintro e wg1 ⟨ug1, rfl, hh, hex⟩; have HG1 : Hid (ByV wg1 wp.heap.size ug1 (stB3 s m ++ int8 p.1) ∧ Ex wp.heap.size none wp wg1) := ⟨hh.lower (Nat.le_refl _), ((Ex.refl _ _ wp).drew).trans hex (Nat.le_refl _) (by simp)⟩; have hzwg1 : wp.heap.size ≤ wg1.heap.size := HG1.out.2.size; clear hh hex)
              | (go_at_call 88; (fail_if_success (first | have _x := HG2 | fail)); refine (int02_v ug1 _ p.2.1 _ HG1.out.1.sl (by have := stB3_len HT.out m; rw [List.length_append, int8_len]; omega)).mono ?_; rintro e wg2 ⟨ug2, rfl, hh, hex⟩; have HG2 : Hid (ByV wg2 wp.heap.size ug2 ((stB3 s m ++ int8 p.1) ++ int8 p.2.1) ∧ Ex wp.heap.size none wp wg2) := ⟨hh.lower hzwg1, HG1.out.2.trans hex hzwg1 (by simp)⟩; have hzwg2 : wp.heap.size ≤ wg2.heap.size := HG2.out.2.size; clear hh hex)
              | (go_at_call 49; (fail_if_success (first | have _x := HG3 | fail)); refine (text02_v ug2 _ p.2.2 _ HG2.out.1.sl (by have := stB3_len HT.out m; rw [List.length_append, List.length_append, int8_len, int8_len]; omega) (by have := HPS.out; omega)).mono ?_; rintro e wg3 ⟨ug3, rfl, hh, hex⟩; have HG3 : Hid (ByV wg3 wp.heap.size ug3 (stB3 s (m + 1)) ∧ Ex wp.heap.size none wp wg3) := ⟨by rw [stB3_succ s m p HP.out]; exact hh.lower hzwg2, HG2.out.2.trans hex hzwg2 (by simp)⟩; have hzwg3 : wp.heap.size ≤ wg3.heap.size := HG3.out.2.size; clear hh hex)
              | fail)
          clear HG1 HG2 hzwg1 hzwg2
          go_wp2
          go_roundw
          case rel => exact ⟨m + 1, by omega, by go_num, Lib.hid (HG3.out.1.lower hzp), HEP.out.trans HG3.out.2 hzp (by simp)⟩
          case measure => simp [intOf] <;> omega
        · have hltI : ¬ (m : Int) < (pn : Int) := by omega
          have HMN : Hid (m = s.pins.length) := (show _ = _ by have := HPN.out; omega)
          go_upto_region 13 with (fail)
          go_wp2_with (go_at_call 49; refine (text02_v _ _ s.body _ hv.out.sl (by have := stB3_len HT.out m; omega) (by have := HT.out.body; omega)).mono ?_; rintro e w9 ⟨u9, rfl, hh, hex9⟩)
          go_ret
          exact ⟨_, rfl, by rw [stB_eq, ← HMN.out]; exact hh.lower (by omega), HE0.out.trans (HEI.out.trans hex9 hszi (by simp)) (by omega) (by simp)⟩
end Go.Proofs.YtoeklgbajggndaaGreat

namespace Go.Proofs.YtoeklgbajggndaaGreat
open Go.RowKit Go.Sort

theorem pins_dig {l : List PinD} (h : pinsB l = true) : ∀ p ∈ l, p.2.2.size = 32 := by
  intro p hp
  obtain ⟨i, hi, rfl⟩ := List.getElem_of_mem hp
  unfold pinsB pinsTo at h
  rw [List.all_eq_true] at h
  have := h i (by simpa using hi)
  unfold pinAt at this
  rw [List.getElem?_eq_getElem hi] at this
  simp only [Bool.and_eq_true, decide_eq_true_eq] at this
  exact this.2
/-- What a right statement is. -/
structure RightS (s : St) : Prop where
  author : 0 ≤ s.author ∧ s.author < 64
  kind : ¬ (s.kind < 1 ∨ (3 < s.kind ∧ s.kind < 10) ∨ 31 < s.kind)
  time : 0 ≤ s.time ∧ s.time ≤ 2147483648
  num : numB s = true
  list : s.list.length ≤ 64
  pins : s.pins.length ≤ 64
  body : s.body.size ≤ 4096
  prev0 : s.number = 0 → s.prev = ⟨#[]⟩
  prev1 : 0 < s.number → s.prev.size = 32
  pinsB : pinsB s.pins = true
  plain : s.kind ≤ 3 → s.list.length = 0 ∧ s.pins.length = 0 ∧ s.body = ⟨#[]⟩
theorem checkI_right {s : St} (h : checkI s = 0) : RightS s := by
  unfold checkI at h
  split at h
  · exact absurd h (by decide)
  split at h
  · exact absurd h (by decide)
  split at h
  · exact absurd h (by decide)
  split at h
  · exact absurd h (by decide)
  split at h
  · exact absurd h (by decide)
  split at h
  · exact absurd h (by decide)
  split at h
  · exact absurd h (by decide)
  rename_i h1 h2 h3 h4 h5 h6 h7
  refine ⟨keyB_iff.1 (by simpa using h1), h2, inB_iff.1 (by simpa using h3), by simpa using h4, by omega, by omega, by omega, fun e => ?_, fun e => ?_, ?_, fun e => ⟨?_, ?_, ?_⟩⟩
  · exact Classical.byContradiction fun c => h6 (.inl ⟨e, c⟩)
  · exact Classical.byContradiction fun c => h6 (.inr (.inl ⟨e, c⟩))
  · cases hp : Go.Proofs.YtoeklgbajggndaaGreat.pinsB s.pins
    · exact absurd (.inr (.inr hp)) h6
    · rfl
  · exact Classical.byContradiction fun c => h7 ⟨e, .inl (by omega)⟩
  · exact Classical.byContradiction fun c => h7 ⟨e, .inr (.inl (by omega))⟩
  · exact Classical.byContradiction fun c => h7 ⟨e, .inr (.inr c)⟩
theorem RightS.number {s : St} (h : RightS s) : 0 ≤ s.number ∧ s.number ≤ 199 := by
  have := h.num
  simp only [numB, Bool.and_eq_true] at this
  exact inB_iff.1 this.1.1.1.1.1
theorem RightS.tame {s : St} (h : RightS s) : Tame s := by
  refine ⟨by have := h.list; omega, by have := h.pins; omega, ?_, by have := h.body; omega, digs_of (by have := h.pins; omega) fun p hp => by have := pins_dig h.pinsB p hp; omega⟩
  have h0 := h.number
  by_cases h1 : s.number = 0
  · rw [h.prev0 h1]; exact Nat.zero_le _
  · rw [h.prev1 (by omega)]; omega
theorem checkI_tame {s : St} (h : checkI s = 0) : Tame s := (checkI_right h).tame
end Go.Proofs.YtoeklgbajggndaaGreat

namespace Go.Proofs.YtoeklgbajggndaaGreat
open Go.RowKit Go.Sort

/-- The number whose digits are bytes. -/
def beN (b : List UInt8) : Nat := b.foldl (fun v x => v * 256 + x.toNat) 0
theorem beN_take (b : List UInt8) (k : Nat) (x : UInt8) (h : b[k]? = some x) : beN (b.take (k + 1)) = beN (b.take k) * 256 + x.toNat := by
  rw [List.take_add_one, h]
  simp [beN, List.foldl_append]
theorem beN_lt (b : List UInt8) (k : Nat) : beN (b.take k) < 256 ^ k := by
  induction k with
  | zero => simp [beN]
  | succ k ih =>
    cases h : b[k]? with
    | none => rw [List.take_add_one, h]; simp only [Option.toList_none, List.append_nil]; rw [Nat.pow_succ]; omega
    | some x =>
      rw [beN_take b k x h, Nat.pow_succ]
      have := x.toNat_lt
      omega
/-- A number of eight bytes, as the machine reads it. -/
def i64N (n : Nat) : Int := IntKind.i64.wrap (n : Int)
theorem i64N_eq (n : Nat) (h : n < 18446744073709551616) : i64N n = if (n : Int) < 9223372036854775808 then (n : Int) else (n : Int) - 18446744073709551616 := by
  unfold i64N
  rw [IntKind.wrap_i64]
  split <;> omega
theorem i64N_range (n : Nat) : -9223372036854775808 ≤ i64N n ∧ i64N n ≤ 9223372036854775807 := by
  unfold i64N
  rw [IntKind.wrap_i64]
  omega
theorem by8_eq (z : Int) (x : UInt8) (h : z % 256 = (x.toNat : Int)) : by8 z = x := by
  apply UInt8.toNat_inj.1
  have := by8_toNat z
  omega
theorem int8_back (x0 x1 x2 x3 x4 x5 x6 x7 : UInt8) : int8 (i64N (beN [x0, x1, x2, x3, x4, x5, x6, x7])) = [x0, x1, x2, x3, x4, x5, x6, x7] := by
  have h0 := x0.toNat_lt
  have h1 := x1.toNat_lt
  have h2 := x2.toNat_lt
  have h3 := x3.toNat_lt
  have h4 := x4.toNat_lt
  have h5 := x5.toNat_lt
  have h6 := x6.toNat_lt
  have h7 := x7.toNat_lt
  have hb : beN [x0, x1, x2, x3, x4, x5, x6, x7] = x0.toNat * 72057594037927936 + x1.toNat * 281474976710656 + x2.toNat * 1099511627776 + x3.toNat * 4294967296 + x4.toNat * 16777216 + x5.toNat * 65536 + x6.toNat * 256 + x7.toNat := by
    simp only [beN, List.foldl_cons, List.foldl_nil]; omega
  obtain ⟨N, hN⟩ : ∃ N, N = beN [x0, x1, x2, x3, x4, x5, x6, x7] := ⟨_, rfl⟩
  rw [← hN] at hb ⊢
  have hz : i64N N = (N : Int) ∨ i64N N = (N : Int) - 18446744073709551616 := by
    rw [i64N_eq N (by omega)]; split
    · exact .inl rfl
    · exact .inr rfl
  obtain ⟨z, hzz⟩ : ∃ z, z = i64N N := ⟨_, rfl⟩
  rw [← hzz] at hz ⊢
  clear hN hzz
  unfold int8
  rw [by8_eq (z / 72057594037927936) x0 (by omega), by8_eq (z / 281474976710656) x1 (by omega), by8_eq (z / 1099511627776) x2 (by omega), by8_eq (z / 4294967296) x3 (by omega), by8_eq (z / 16777216) x4 (by omega), by8_eq (z / 65536) x5 (by omega), by8_eq (z / 256) x6 (by omega), by8_eq z x7 (by omega)]
theorem int8_be (l : List UInt8) (h : l.length = 8) : int8 (i64N (beN l)) = l := by
  match l, h with
  | [x0, x1, x2, x3, x4, x5, x6, x7], _ => exact int8_back x0 x1 x2 x3 x4 x5 x6 x7
/-- A number, and what is left. -/
def takeI (b : List UInt8) : Option (Int × List UInt8) := if b.length < 8 then none else some (i64N (beN (b.take 8)), b.drop 8)
theorem takeI_back {b r : List UInt8} {n : Int} (h : takeI b = some (n, r)) : b = int8 n ++ r := by
  unfold takeI at h
  split at h
  · cases h
  · simp only [Option.some.injEq, Prod.mk.injEq] at h
    obtain ⟨rfl, rfl⟩ := h
    rw [int8_be _ (by simp; omega), List.take_append_drop]
theorem takeI_len {b r : List UInt8} {n : Int} (h : takeI b = some (n, r)) : b.length = r.length + 8 := by
  rw [takeI_back h, List.length_append, int8_len]; omega
/-- A text, and what is left. -/
def takeT (b : List UInt8) (most : Int) : Option (ByteArray × List UInt8) :=
  match takeI b with
  | none => none
  | some (n, r) => if n < 0 ∨ most < n ∨ (r.length : Int) < n then none else some (strOf (r.take n.toNat), r.drop n.toNat)
theorem strL_of (l : List UInt8) : strL (strOf l) = l := by simp [strL, strOf]
theorem takeT_back {b r : List UInt8} {most : Int} {s : ByteArray} (h : takeT b most = some (s, r)) : b = int8 s.size ++ strL s ++ r := by
  unfold takeT at h
  cases hi : takeI b with
  | none => rw [hi] at h; cases h
  | some q =>
    obtain ⟨n, r0⟩ := q
    rw [hi] at h
    simp only at h
    split at h
    · cases h
    · rename_i hc
      simp only [Option.some.injEq, Prod.mk.injEq] at h
      obtain ⟨rfl, rfl⟩ := h
      rw [takeI_back hi, strL_of, strOf_size, List.append_assoc, List.take_append_drop]
      congr 2
      simp only [List.length_take]
      omega
/-- So many numbers, and what is left; the bytes are enough. -/
def takeN : Nat → List UInt8 → List Int × List UInt8
  | 0, b => ([], b)
  | n + 1, b => ((i64N (beN (b.take 8))) :: (takeN n (b.drop 8)).1, (takeN n (b.drop 8)).2)
theorem takeN_len (n : Nat) : ∀ b : List UInt8, (takeN n b).1.length = n := by
  induction n with
  | zero => exact fun _ => rfl
  | succ n ih => exact fun b => by simp [takeN, ih]
theorem takeN_back (n : Nat) : ∀ b : List UInt8, n * 8 ≤ b.length → b = intsB (takeN n b).1 ++ (takeN n b).2 := by
  induction n with
  | zero => exact fun b _ => rfl
  | succ n ih =>
    intro b h
    have h2 := ih (b.drop 8) (by simp; omega)
    simp only [takeN, intsB, List.flatMap_cons]
    rw [int8_be _ (by simp; omega), List.append_assoc]
    simp only [intsB] at h2
    rw [← h2, List.take_append_drop]
theorem takeN_snoc (n : Nat) : ∀ b : List UInt8, takeN (n + 1) b = ((takeN n b).1 ++ [i64N (beN ((takeN n b).2.take 8))], (takeN n b).2.drop 8) := by
  induction n with
  | zero => exact fun b => rfl
  | succ n ih =>
    intro b
    rw [takeN, ih (b.drop 8)]
    simp only [takeN]
    rfl
theorem takeN_rest (n : Nat) : ∀ b : List UInt8, (takeN n b).2 = b.drop (n * 8) := by
  induction n with
  | zero => exact fun b => by simp [takeN]
  | succ n ih => exact fun b => by simp only [takeN]; rw [ih, List.drop_drop]; congr 1; omega
def takeL (b : List UInt8) (most : Int) : Option (List Int × List UInt8) :=
  match takeI b with
  | none => none
  | some (n, r) => if n < 0 ∨ most < n ∨ ((r.length / 8 : Nat) : Int) < n then none else some (takeN n.toNat r)
theorem takeL_back {b r : List UInt8} {most : Int} {l : List Int} (h : takeL b most = some (l, r)) : b = int8 l.length ++ intsB l ++ r := by
  unfold takeL at h
  cases hi : takeI b with
  | none => rw [hi] at h; cases h
  | some q =>
    obtain ⟨n, r0⟩ := q
    rw [hi] at h
    simp only at h
    split at h
    · cases h
    · rename_i hc
      have e := Option.some.inj h
      have hn : n.toNat * 8 ≤ r0.length := by omega
      have hb := takeN_back n.toNat r0 hn
      have hl := takeN_len n.toNat r0
      rw [e] at hb hl
      rw [takeI_back hi, hb, List.append_assoc]
      congr 2
      simp only at hl
      omega
/-- A pin, and what is left. -/
def takeP (b : List UInt8) : Option (PinD × List UInt8) :=
  match takeI b with
  | none => none
  | some (a, r) =>
    match takeI r with
    | none => none
    | some (h, r) =>
      match takeT r 32 with
      | none => none
      | some (d, r) => some ((a, h, d), r)
theorem takeP_back {b r : List UInt8} {p : PinD} (h : takeP b = some (p, r)) : b = pinL p ++ r := by
  unfold takeP at h
  cases h1 : takeI b with
  | none => rw [h1] at h; cases h
  | some q1 =>
    obtain ⟨a, r1⟩ := q1
    rw [h1] at h
    simp only at h
    cases h2 : takeI r1 with
    | none => rw [h2] at h; cases h
    | some q2 =>
      obtain ⟨hh, r2⟩ := q2
      rw [h2] at h
      simp only at h
      cases h3 : takeT r2 32 with
      | none => rw [h3] at h; cases h
      | some q3 =>
        obtain ⟨d, r3⟩ := q3
        rw [h3] at h
        simp only [Option.some.injEq, Prod.mk.injEq] at h
        obtain ⟨rfl, rfl⟩ := h
        rw [takeI_back h1, takeI_back h2, takeT_back h3]
        simp [pinL]
/-- So many pins, and what is left. -/
def takePs : Nat → List UInt8 → Option (List PinD × List UInt8)
  | 0, b => some ([], b)
  | n + 1, b =>
    match takePs n b with
    | none => none
    | some (l, r) =>
      match takeP r with
      | none => none
      | some (p, r) => some (l ++ [p], r)
theorem takePs_back (n : Nat) : ∀ {b r : List UInt8} {l : List PinD}, takePs n b = some (l, r) → b = pinsL l ++ r ∧ l.length = n := by
  induction n with
  | zero => intro b r l h; simp only [takePs, Option.some.injEq, Prod.mk.injEq] at h; obtain ⟨rfl, rfl⟩ := h; exact ⟨rfl, rfl⟩
  | succ n ih =>
    intro b r l h
    unfold takePs at h
    cases h1 : takePs n b with
    | none => rw [h1] at h; cases h
    | some q1 =>
      obtain ⟨l1, r1⟩ := q1
      rw [h1] at h
      simp only at h
      cases h2 : takeP r1 with
      | none => rw [h2] at h; cases h
      | some q2 =>
        obtain ⟨p, r2⟩ := q2
        rw [h2] at h
        simp only [Option.some.injEq, Prod.mk.injEq] at h
        obtain ⟨rfl, rfl⟩ := h
        obtain ⟨e, hl⟩ := ih h1
        rw [e, takeP_back h2]
        simp [pinsL, hl]
end Go.Proofs.YtoeklgbajggndaaGreat

namespace Go.Proofs.YtoeklgbajggndaaGreat
open Go.RowKit Go.Sort

/-- The slice value v reads as bytes, and its capacity is enough. -/
def SlC (P : Nat → Prop) (w : World) (v : Value) (xs : List UInt8) : Prop := ∃ ao cap, v = .slice ao xs.length cap ∧ xs.length ≤ cap ∧ SlAt byRep P w ao xs
theorem SlC.sl {P : Nat → Prop} {w : World} {v : Value} {xs : List UInt8} (h : SlC P w v xs) : Sl byRep P w v xs := let ⟨ao, cap, e, _, hx⟩ := h; ⟨ao, cap, e, hx⟩
theorem SlC.keep {P : Nat → Prop} {w w' : World} {v : Value} {xs : List UInt8} (h : SlC P w v xs) (hx : ∀ b, P b → b < w.heap.size → w'.heap[b]? = w.heap[b]?) : SlC P w' v xs := let ⟨ao, cap, e, hc, h⟩ := h; ⟨ao, cap, e, hc, h.keep (by decide) hx⟩
theorem SlC.mono {P P' : Nat → Prop} {w : World} {v : Value} {xs : List UInt8} (h : SlC P w v xs) (hx : ∀ b, P b → b < w.heap.size → P' b) : SlC P' w v xs := let ⟨ao, cap, e, hc, h⟩ := h; ⟨ao, cap, e, hc, h.mono (by decide) hx⟩
theorem SlC.nil (P : Nat → Prop) (w : World) : SlC P w (.slice none 0 0) [] := ⟨none, 0, rfl, Nat.le_refl _, SlAt.nil _ _ _⟩
theorem OwnB.slc {w : World} {base : Nat} {ao : Option Addr} {cap : Nat} {xs : List UInt8} (h : OwnB w base ao cap xs) : SlC (fun b => base ≤ b) w (.slice ao xs.length cap) xs := by
  obtain ⟨ao', cap', e, hx⟩ := h.sl
  simp only [Value.slice.injEq] at e
  obtain ⟨rfl, _, rfl⟩ := e
  refine ⟨ao, cap, rfl, ?_, hx⟩
  rcases h.2 with ⟨e, h0⟩ | ⟨g, c, cur, e, _, _, hc, _⟩
  · omega
  · simp only [Value.slice.injEq] at e
    omega
theorem or_shl (v : Nat) (x : UInt8) (hv : v < 72057594037927936) : bits .or .u64 ((v : Int) * 256) (x.toNat : Int) = ((v * 256 + x.toNat : Nat) : Int) := by
  have hx := x.toNat_lt
  rw [show (v : Int) * 256 = ((v * 256 : Nat) : Int) by simp, u64_or_nat (v * 256) x.toNat (by omega) (by omega)]
  congr 1
  have := Nat.two_pow_add_eq_or_of_lt (i := 8) (b := x.toNat) (by simpa using hx) v
  rw [show v * 256 = 2 ^ 8 * v by omega, ← this]
theorem beN_le (xs : List UInt8) (k : Nat) (hk : k < 8) : beN (xs.take k) < 72057594037927936 := by
  refine Nat.lt_of_lt_of_le (beN_lt xs k) ?_
  have := Nat.pow_le_pow_right (n := 256) (by omega) (show k ≤ 7 by omega)
  exact Nat.le_trans this (by decide)
theorem wrap64_N (n : Nat) : wrap64 (n : Int) = i64N n := by unfold i64N wrap64; rw [IntKind.wrap_i64]
theorem takeI_short {xs : List UInt8} (h : xs.length < 8) : takeI xs = none := by unfold takeI; rw [if_pos h]
theorem takeI_long {xs : List UInt8} (h : ¬ xs.length < 8) : takeI xs = some (i64N (beN (xs.take 8)), xs.drop 8) := by unfold takeI; rw [if_neg h]

set_option maxHeartbeats 1000000 in
theorem rest02_any {P : Nat → Prop} (v : Value) (xs : List UInt8) (w : World) (hv : Sl byRep P w v xs) (hm : xs.length ≤ 5000000) :
    Calls Tryz.prog 96 #[v] w fun e w' => ∃ u, e = .returned u ∧ SlC (fun b => w.heap.size ≤ b) w' u xs ∧ Ex w.heap.size none w w' := by
  obtain ⟨ao, cap, rfl, hx⟩ := hv
  have HX := Lib.hid (val_cells (by decide) hx)
  have HN : Hid (OwnB w w.heap.size none 0 []) := OwnE.nil _ _ _ _ _
  clear hx
  go_enter Tryz.func96, Tryz.ntmps96
  go_wp2_with (at_builtin; refine wpList_appE2 rfl (.const (.slice none 0 0)) (.tmp 3) _ 5 (by rfl) Tryz.underlying30 _ 1 1 Tryz.infoB rfl (by decide) (by decide) byE byE_len one_byE w.heap.size none 0 0 [] rfl (by rfl) ao xs.length cap (by rfl) xs rfl HN.out HX.out (by omega) (Nat.le_refl _) xs.length (by omega) ?_; intro ro rc w1 hown hex _ _)
  go_ret
  exact ⟨_, rfl, OwnB.slc hown, hex⟩
theorem cloneB_v {P : Nat → Prop} (v : Value) (xs : List UInt8) (w : World) (hv : Sl byRep P w v xs) (hm : xs.length ≤ 5000000) :
    Calls Tryz.prog 137 #[v] w fun e w' => ∃ u, e = .returned u ∧ SlC (fun b => w.heap.size ≤ b) w' u xs ∧ Ex w.heap.size none w w' :=
  (cloneBytes_any v xs w hv hm).mono fun _e _w' ⟨_ro, _rc, h1, h2, h3⟩ => ⟨_, h1, OwnB.slc h2, h3⟩

set_option maxHeartbeats 4000000 in
set_option maxRecDepth 100000 in
theorem takeInt02_any {P : Nat → Prop} (v : Value) (xs : List UInt8) (w : World) (hv : SlC P w v xs) (hm : xs.length ≤ 1000000) :
    Calls Tryz.prog 95 #[v] w fun e w' => ∃ u, e = .returned (.tuple #[.int .i64 ((takeI xs).getD (0, [])).1, u, .bool (takeI xs).isSome]) ∧ SlC (fun b => w.heap.size ≤ b) w' u ((takeI xs).getD (0, [])).2 ∧ Ex w.heap.size none w w' := by
  obtain ⟨ao, cap, rfl, hcap, hx⟩ := hv
  obtain ⟨m, hml⟩ : ∃ m, m = xs.length := ⟨_, rfl⟩
  have HML := Lib.hid hml
  rw [← hml] at hm hcap ⊢
  clear hml
  by_cases h8 : m < 8
  · have h8I : (m : Int) < 8 := by omega
    have HT : Hid (takeI xs = none) := Lib.hid (takeI_short (by have := HML.out; omega))
    clear hx
    go_enter Tryz.func95, Tryz.ntmps95
    go_wp2
    go_ret3
    exact ⟨.slice none 0 0, by rw [HT.out]; rfl, by rw [HT.out]; exact SlC.nil _ _, Ex.refl _ _ _⟩
  · have h8I : ¬ (m : Int) < 8 := by omega
    have hd : decide (m < 8) = false := decide_eq_false h8
    have HT := Lib.hid (takeI_long (xs := xs) (by have := HML.out; omega))
    obtain ⟨bb, off, rfl, _, hbb, _⟩ := by_get hx 0 (by have := HML.out; omega)
    have HX := Lib.hid hx
    clear hx
    have hc8 : 8 ≤ cap := by omega
    have hc8I : (8 : Int) ≤ (cap : Int) := by omega
    have hm8 : 8 ≤ m := by omega
    have hm8I : (8 : Int) ≤ (m : Int) := by omega
    have HZ : Hid (Tryz.prog.info? 5 = Tryz.prog.info? 5) := Lib.hid rfl
    have HDR : Hid (SlAt byRep P w (some ⟨bb, off + 8, none⟩) (xs.drop 8)) := Lib.hid (by have := HX.out.drop 8; rwa [show 8 * byRep.k = 8 from rfl] at this)
    go_enter Tryz.func95, Tryz.ntmps95
    go_wp2_with fail
    go_loopw [5, 6] (fun v i wr => ∃ k : Nat, k ≤ 8 ∧ i = .int .i64 k ∧ v = .int .u64 (beN (xs.take k)) ∧ wr = w) (fun _ i _ => 8 - (intOf i).toNat)
    case atStart => exact ⟨0, by omega, rfl, rfl, rfl⟩
    case round =>
      obtain ⟨k, hk, rfl, rfl, rfl⟩ := hrel
      by_cases hlt : k < 8
      · have hltI : (k : Int) < 8 := by omega
        have hkm : (k : Int) < (m : Int) := by omega
        have hkmN : k < m := by omega
        obtain ⟨b', off', y, e', _, hc, hy⟩ := by_at HX.out k (by have := HML.out; omega)
        cases e'
        have HY := Lib.hid hy
        clear hy
        obtain ⟨q, hq⟩ : ∃ q, q = beN (xs.take k) := ⟨_, rfl⟩
        have hqb : q < 72057594037927936 := by rw [hq]; exact beN_le xs k hlt
        have HOR : Hid (bits .or .u64 ((beN (xs.take k) : Int) * 256) (y.toNat : Int) = ((beN (xs.take k) * 256 + y.toNat : Nat) : Int)) := Lib.hid (by rw [← hq]; exact or_shl q y hqb)
        have HQ := Lib.hid hq
        have hy8 := y.toNat_lt
        have hw1 : IntKind.u64.wrap ((q : Int) * 256) = (q : Int) * 256 := by rw [IntKind.wrap_u64]; omega
        have hw2 : IntKind.u64.wrap (y.toNat : Int) = (y.toNat : Int) := by rw [IntKind.wrap_u64]; omega
        have hw3 : (q : Int) * 256 % 18446744073709551616 = (q : Int) * 256 := by omega
        have hor : bits .or .u64 ((q : Int) * 256) (y.toNat : Int) = ((q * 256 + y.toNat : Nat) : Int) := or_shl q y hqb
        rw [← hq]
        clear hq
        go_wp2
        go_roundw
        case rel => exact ⟨k + 1, by omega, by go_num, by rw [beN_take xs k y HY.out, ← HQ.out]; first | rfl | simp, by first | trivial | rfl⟩
        case measure => simp [intOf] <;> omega
      · have HK : Hid (k = 8) := Lib.hid (by omega)
        have h9 : ¬ (k : Int) < 8 := by omega
        have hd9 : decide (k < 8) = false := decide_eq_false hlt
        obtain ⟨q, hq⟩ : ∃ q, q = beN (xs.take k) := ⟨_, rfl⟩
        have HQ := Lib.hid hq
        have HWR : Hid (wrap64 (q : Int) = i64N (beN (xs.take 8))) := Lib.hid (by rw [HQ.out, HK.out]; exact wrap64_N _)
        rw [← hq]
        clear hq
        by_cases hcz : cap = 8
        · subst hcz
          obtain rfl : m = 8 := by omega
          have HEM : Hid (SlAt byRep P wr (some ⟨bb, off, none⟩) (xs.drop 8)) := Lib.hid (fun i hi => by rw [List.length_drop] at hi; have := HML.out; omega)
          go_wp2_with (go_at_call 96; refine (rest02_any (.slice (some ⟨bb, off, none⟩) 0 0) (xs.drop 8) _ ⟨_, _, by rw [List.length_drop, ← HML.out], HEM.out⟩ (by rw [List.length_drop]; have := HML.out; omega)).mono ?_; rintro e w1 ⟨u1, rfl, hu, hex⟩)
          go_ret3
          exact ⟨u1, by rw [HT.out]; simp only [Option.getD_some, Option.isSome_some, ← HWR.out]; rfl, by rw [HT.out]; exact hu, hex⟩
        · go_wp2_with (go_at_call 96; refine (rest02_any (.slice (some ⟨bb, off + 8, none⟩) (m - 8) (cap - 8)) (xs.drop 8) _ ⟨_, _, by rw [List.length_drop, ← HML.out], HDR.out⟩ (by rw [List.length_drop]; have := HML.out; omega)).mono ?_; rintro e w1 ⟨u1, rfl, hu, hex⟩)
          go_ret3
          exact ⟨u1, by rw [HT.out]; simp only [Option.getD_some, Option.isSome_some, ← HWR.out]; rfl, by rw [HT.out]; exact hu, hex⟩

set_option maxHeartbeats 4000000 in
set_option maxRecDepth 100000 in
theorem takeInt_any {P : Nat → Prop} (v : Value) (xs : List UInt8) (w : World) (hv : SlC P w v xs) (hm : xs.length ≤ 1000000) :
    Calls Tryz.prog 91 #[v] w fun e w' => ∃ u, e = .returned (.tuple #[.int .i64 ((takeI xs).getD (0, [])).1, u, .bool (takeI xs).isSome]) ∧ SlC (fun b => w.heap.size ≤ b) w' u ((takeI xs).getD (0, [])).2 ∧ Ex w.heap.size none w w' := by
  obtain ⟨ao, cap, rfl, hcap, hx⟩ := hv
  obtain ⟨m, hml⟩ : ∃ m, m = xs.length := ⟨_, rfl⟩
  have HML := Lib.hid hml
  rw [← hml] at hm hcap ⊢
  clear hml
  by_cases h8 : m < 8
  · have h8I : (m : Int) < 8 := by omega
    have HT : Hid (takeI xs = none) := Lib.hid (takeI_short (by have := HML.out; omega))
    clear hx
    go_enter Tryz.func91, Tryz.ntmps91
    go_wp2
    go_ret3
    exact ⟨.slice none 0 0, by rw [HT.out]; rfl, by rw [HT.out]; exact SlC.nil _ _, Ex.refl _ _ _⟩
  · have h8I : ¬ (m : Int) < 8 := by omega
    have hd : decide (m < 8) = false := decide_eq_false h8
    have HT := Lib.hid (takeI_long (xs := xs) (by have := HML.out; omega))
    obtain ⟨bb, off, rfl, _, hbb, _⟩ := by_get hx 0 (by have := HML.out; omega)
    have HX := Lib.hid hx
    clear hx
    have hc8 : 8 ≤ cap := by omega
    have hc8I : (8 : Int) ≤ (cap : Int) := by omega
    have hm8 : 8 ≤ m := by omega
    have hm8I : (8 : Int) ≤ (m : Int) := by omega
    have HZ : Hid (Tryz.prog.info? 5 = Tryz.prog.info? 5) := Lib.hid rfl
    have HDR : Hid (SlAt byRep P w (some ⟨bb, off + 8, none⟩) (xs.drop 8)) := Lib.hid (by have := HX.out.drop 8; rwa [show 8 * byRep.k = 8 from rfl] at this)
    go_enter Tryz.func91, Tryz.ntmps91
    go_wp2_with fail
    go_loopw [5, 7, 14] (fun v x i wr => ∃ k : Nat, k ≤ 8 ∧ i = .int .i64 k ∧ v = .int .u64 (beN (xs.take k)) ∧ wr = w) (fun _ _ i _ => 8 - (intOf i).toNat)
    case atStart => exact ⟨0, by omega, rfl, rfl, rfl⟩
    case round =>
      obtain ⟨k, hk, rfl, rfl, rfl⟩ := hrel
      by_cases hlt : k < 8
      · have hltI : (k : Int) < 8 := by omega
        have hkm : (k : Int) < (m : Int) := by omega
        have hkmN : k < m := by omega
        obtain ⟨b', off', y, e', _, hc, hy⟩ := by_at HX.out k (by have := HML.out; omega)
        cases e'
        have HY := Lib.hid hy
        clear hy
        obtain ⟨q, hq⟩ : ∃ q, q = beN (xs.take k) := ⟨_, rfl⟩
        have hqb : q < 72057594037927936 := by rw [hq]; exact beN_le xs k hlt
        have HOR : Hid (bits .or .u64 ((beN (xs.take k) : Int) * 256) (y.toNat : Int) = ((beN (xs.take k) * 256 + y.toNat : Nat) : Int)) := Lib.hid (by rw [← hq]; exact or_shl q y hqb)
        have HQ := Lib.hid hq
        have hy8 := y.toNat_lt
        have hw1 : IntKind.u64.wrap ((q : Int) * 256) = (q : Int) * 256 := by rw [IntKind.wrap_u64]; omega
        have hw2 : IntKind.u64.wrap (y.toNat : Int) = (y.toNat : Int) := by rw [IntKind.wrap_u64]; omega
        have hw3 : (q : Int) * 256 % 18446744073709551616 = (q : Int) * 256 := by omega
        have hor : bits .or .u64 ((q : Int) * 256) (y.toNat : Int) = ((q * 256 + y.toNat : Nat) : Int) := or_shl q y hqb
        rw [← hq]
        clear hq
        go_wp2
        go_roundw
        case rel => exact ⟨k + 1, by omega, by go_num, by rw [beN_take xs k y HY.out, ← HQ.out]; first | rfl | simp, by first | trivial | rfl⟩
        case measure => simp [intOf] <;> omega
      · have HK : Hid (k = 8) := Lib.hid (by omega)
        have h9 : ¬ (k : Int) < 8 := by omega
        have hd9 : decide (k < 8) = false := decide_eq_false hlt
        obtain ⟨q, hq⟩ : ∃ q, q = beN (xs.take k) := ⟨_, rfl⟩
        have HQ := Lib.hid hq
        have HWR : Hid (wrap64 (q : Int) = i64N (beN (xs.take 8))) := Lib.hid (by rw [HQ.out, HK.out]; exact wrap64_N _)
        rw [← hq]
        clear hq
        by_cases hcz : cap = 8
        · subst hcz
          obtain rfl : m = 8 := by omega
          have HEM : Hid (SlAt byRep P wr (some ⟨bb, off, none⟩) (xs.drop 8)) := Lib.hid (fun i hi => by rw [List.length_drop] at hi; have := HML.out; omega)
          go_wp2_with (go_at_call 137; refine (cloneB_v (.slice (some ⟨bb, off, none⟩) 0 0) (xs.drop 8) _ ⟨_, _, by rw [List.length_drop, ← HML.out], HEM.out⟩ (by rw [List.length_drop]; have := HML.out; omega)).mono ?_; rintro e w1 ⟨u1, rfl, hu, hex⟩)
          go_ret3
          exact ⟨u1, by rw [HT.out]; simp only [Option.getD_some, Option.isSome_some, ← HWR.out]; rfl, by rw [HT.out]; exact hu, hex⟩
        · go_wp2_with (go_at_call 137; refine (cloneB_v (.slice (some ⟨bb, off + 8, none⟩) (m - 8) (cap - 8)) (xs.drop 8) _ ⟨_, _, by rw [List.length_drop, ← HML.out], HDR.out⟩ (by rw [List.length_drop]; have := HML.out; omega)).mono ?_; rintro e w1 ⟨u1, rfl, hu, hex⟩)
          go_ret3
          exact ⟨u1, by rw [HT.out]; simp only [Option.getD_some, Option.isSome_some, ← HWR.out]; rfl, by rw [HT.out]; exact hu, hex⟩

theorem takeInt02_some {P : Nat → Prop} (v : Value) (xs : List UInt8) (w : World) (hv : SlC P w v xs) (hm : xs.length ≤ 1000000) {n : Int} {r : List UInt8} (h : takeI xs = some (n, r)) :
    Calls Tryz.prog 95 #[v] w fun e w' => ∃ u, e = .returned (.tuple #[.int .i64 n, u, .bool true]) ∧ SlC (fun b => w.heap.size ≤ b) w' u r ∧ Ex w.heap.size none w w' :=
  (takeInt02_any v xs w hv hm).mono fun e w' ⟨u, h1, h2, h3⟩ => by rw [h] at h1 h2; exact ⟨u, h1, h2, h3⟩
theorem takeInt02_none {P : Nat → Prop} (v : Value) (xs : List UInt8) (w : World) (hv : SlC P w v xs) (hm : xs.length ≤ 1000000) (h : takeI xs = none) :
    Calls Tryz.prog 95 #[v] w fun e w' => ∃ u, e = .returned (.tuple #[.int .i64 0, u, .bool false]) ∧ SlC (fun b => w.heap.size ≤ b) w' u [] ∧ Ex w.heap.size none w w' :=
  (takeInt02_any v xs w hv hm).mono fun e w' ⟨u, h1, h2, h3⟩ => by rw [h] at h1 h2; exact ⟨u, h1, h2, h3⟩

theorem takeInt_some {P : Nat → Prop} (v : Value) (xs : List UInt8) (w : World) (hv : SlC P w v xs) (hm : xs.length ≤ 1000000) {n : Int} {r : List UInt8} (h : takeI xs = some (n, r)) :
    Calls Tryz.prog 91 #[v] w fun e w' => ∃ u, e = .returned (.tuple #[.int .i64 n, u, .bool true]) ∧ SlC (fun b => w.heap.size ≤ b) w' u r ∧ Ex w.heap.size none w w' :=
  (takeInt_any v xs w hv hm).mono fun e w' ⟨u, h1, h2, h3⟩ => by rw [h] at h1 h2; exact ⟨u, h1, h2, h3⟩
theorem takeInt_none {P : Nat → Prop} (v : Value) (xs : List UInt8) (w : World) (hv : SlC P w v xs) (hm : xs.length ≤ 1000000) (h : takeI xs = none) :
    Calls Tryz.prog 91 #[v] w fun e w' => ∃ u, e = .returned (.tuple #[.int .i64 0, u, .bool false]) ∧ SlC (fun b => w.heap.size ≤ b) w' u [] ∧ Ex w.heap.size none w w' :=
  (takeInt_any v xs w hv hm).mono fun e w' ⟨u, h1, h2, h3⟩ => by rw [h] at h1 h2; exact ⟨u, h1, h2, h3⟩

theorem takeT_no {xs r : List UInt8} {most n : Int} (h : takeI xs = some (n, r)) (hc : n < 0 ∨ most < n ∨ (r.length : Int) < n) : takeT xs most = none := by unfold takeT; rw [h]; simp only; rw [if_pos hc]
theorem takeT_yes {xs r : List UInt8} {most n : Int} (h : takeI xs = some (n, r)) (hc : ¬ (n < 0 ∨ most < n ∨ (r.length : Int) < n)) : takeT xs most = some (strOf (r.take n.toNat), r.drop n.toNat) := by unfold takeT; rw [h]; simp only; rw [if_neg hc]
theorem takeT_short {xs : List UInt8} {most : Int} (h : takeI xs = none) : takeT xs most = none := by unfold takeT; rw [h]
end Go.Proofs.YtoeklgbajggndaaGreat

namespace Go.Proofs.YtoeklgbajggndaaGreat
open Go.RowKit Go.Sort

set_option maxHeartbeats 8000000 in
set_option maxRecDepth 100000 in
theorem takeText02_any {P : Nat → Prop} (v : Value) (xs : List UInt8) (most : Int) (w : World) (hv : SlC P w v xs) (hm : xs.length ≤ 1000000) :
    Calls Tryz.prog 52 #[v, .int .i64 most] w fun e w' => ∃ u, e = .returned (.tuple #[.string ((takeT xs most).getD (⟨#[]⟩, [])).1, u, .bool (takeT xs most).isSome]) ∧ SlC (fun b => w.heap.size ≤ b) w' u ((takeT xs most).getD (⟨#[]⟩, [])).2 ∧ Ex w.heap.size none w w' := by
  have HV := Lib.hid hv
  clear hv
  cases hT : takeI xs with
  | none =>
    have HT : Hid (takeT xs most = none) := Lib.hid (takeT_short hT)
    have HTI := Lib.hid hT
    clear hT
    go_enter Tryz.func52, Tryz.ntmps52
    go_wp2_with (first | (go_at_call 95; refine (takeInt02_none v xs w HV.out hm HTI.out).mono ?_; rintro e w1 ⟨u1, rfl, hu, hex⟩; have HE := Lib.hid hex; clear hu hex) | fail)
    go_ret3
    exact ⟨.slice none 0 0, by rw [HT.out]; rfl, by rw [HT.out]; exact SlC.nil _ _, HE.out⟩
  | some q =>
    obtain ⟨n, r⟩ := q
    obtain ⟨mr, hmr⟩ : ∃ mr, mr = r.length := ⟨_, rfl⟩
    have hrl : r.length + 8 = xs.length := (takeI_len hT).symm
    have HMR := Lib.hid hmr
    have hmb : mr ≤ 1000000 := by omega
    clear hrl
    by_cases h0 : n < 0
    · have hd0 : decide (n < 0) = true := decide_eq_true h0
      rcases (⟨0, rfl⟩ : ∃ z : Nat, z = 0) with ⟨z, hz⟩
      · have HT : Hid (takeT xs most = none) := Lib.hid (takeT_no hT (.inl h0))
        have HTI := Lib.hid hT
        clear hT
        clear hz hmr
        go_enter Tryz.func52, Tryz.ntmps52
        go_wp2_with (first | (go_at_call 95; refine (takeInt02_some v xs w HV.out hm HTI.out).mono ?_; rintro e w1 ⟨u1, rfl, ⟨ao1, cap1, rfl, hc1, hx1⟩, hex⟩; rw [← HMR.out]; have HE := Lib.hid hex; clear hc1 hx1 hex) | fail)
        go_ret3
        exact ⟨.slice none 0 0, by rw [HT.out]; rfl, by rw [HT.out]; exact SlC.nil _ _, HE.out⟩
    · have hd0 : decide (n < 0) = false := decide_eq_false h0
      by_cases h1 : most < n
      · have hd1 : decide (most < n) = true := decide_eq_true h1
        clear hmr
        rcases (⟨0, rfl⟩ : ∃ z : Nat, z = 0) with ⟨z, hz⟩
        · have HT : Hid (takeT xs most = none) := Lib.hid (takeT_no hT (.inr (.inl h1)))
          have HTI := Lib.hid hT
          clear hT
          clear hz
          go_enter Tryz.func52, Tryz.ntmps52
          go_wp2_with (first | (go_at_call 95; refine (takeInt02_some v xs w HV.out hm HTI.out).mono ?_; rintro e w1 ⟨u1, rfl, ⟨ao1, cap1, rfl, hc1, hx1⟩, hex⟩; rw [← HMR.out]; have HE := Lib.hid hex; clear hc1 hx1 hex) | fail)
          go_ret3
          exact ⟨.slice none 0 0, by rw [HT.out]; rfl, by rw [HT.out]; exact SlC.nil _ _, HE.out⟩
      · have hd1 : decide (most < n) = false := decide_eq_false h1
        by_cases h2 : (mr : Int) < n
        · have hd2 : decide ((mr : Int) < n) = true := decide_eq_true h2
          rcases (⟨0, rfl⟩ : ∃ z : Nat, z = 0) with ⟨z, hz⟩
          · have HT : Hid (takeT xs most = none) := Lib.hid (takeT_no hT (.inr (.inr (by rw [← hmr]; exact h2))))
            have HTI := Lib.hid hT
            clear hT
            clear hz hmr
            go_enter Tryz.func52, Tryz.ntmps52
            go_wp2_with (first | (go_at_call 95; refine (takeInt02_some v xs w HV.out hm HTI.out).mono ?_; rintro e w1 ⟨u1, rfl, ⟨ao1, cap1, rfl, hc1, hx1⟩, hex⟩; rw [← HMR.out]; have HE := Lib.hid hex; clear hc1 hx1 hex) | fail)
            go_ret3
            exact ⟨.slice none 0 0, by rw [HT.out]; rfl, by rw [HT.out]; exact SlC.nil _ _, HE.out⟩
        · obtain ⟨j, rfl⟩ : ∃ j : Nat, n = (j : Int) := ⟨n.toNat, by omega⟩
          have hd2 : decide ((mr : Int) < (j : Int)) = false := decide_eq_false h2
          have hd2N : decide (mr < j) = false := decide_eq_false (by omega)
          have HT : Hid (takeT xs most = some (strOf (r.take j), r.drop j)) := Lib.hid (by rw [takeT_yes hT (by rw [← hmr]; omega)]; rfl)
          have HTI := Lib.hid hT
          have hjm : j ≤ mr := by omega
          have hjmI : (j : Int) ≤ (mr : Int) := by omega
          have hj0 : (0 : Int) ≤ (j : Int) := by omega
          clear hT hmr h0 h1 h2
          go_enter Tryz.func52, Tryz.ntmps52
          go_upto_region 4 with (first | (go_at_call 95; refine (takeInt02_some v xs w HV.out hm HTI.out).mono ?_; rintro e w1 ⟨u1, rfl, ⟨ao1, cap1, rfl, hc1, hx1⟩, hex⟩; rw [← HMR.out]; rw [← HMR.out] at hc1; have HE := Lib.hid hex; have HX1 := Lib.hid hx1; clear hx1 hex) | fail)
          have hjc : j ≤ cap1 := by omega
          have hjcI : (j : Int) ≤ (cap1 : Int) := by omega
          by_cases hm0 : mr = 0
          · obtain rfl : j = 0 := by omega
            subst hm0
            have hr0 : r = [] := List.eq_nil_of_length_eq_zero HMR.out.symm
            cases ao1 with
            | none =>
              by_cases hcz : cap1 = 0
              · subst hcz
                have hsl : Sl byRep (fun b => w.heap.size ≤ b) w1 (.slice none 0 0) (r.take 0) := ⟨none, 0, by rw [hr0]; rfl, by rw [hr0]; exact SlAt.nil _ _ _⟩
                have hs2 : SlC (fun b => w.heap.size ≤ b) w1 (.slice none 0 0) (r.drop 0) := ⟨none, 0, by rw [hr0]; rfl, by rw [hr0]; exact Nat.zero_le _, by rw [hr0]; exact SlAt.nil _ _ _⟩
                have HS2 : Hid (∀ w3, Ex w1.heap.size none w1 w3 → SlC (fun b => w.heap.size ≤ b) w3 (.slice none 0 0) (r.drop 0)) := Lib.hid (fun w3 h3 => hs2.keep fun b _ hb => h3.block b hb (by simp))
                clear hs2
                have HCV : Hid (∀ w3, Ex w1.heap.size none w1 w3 → (convert 30 9 (.slice none 0 0)).run Tryz.prog w3 = .ok (.string (strOf (r.take 0))) w3) := Lib.hid (fun w3 h3 => run_strOf (hsl.keep (by decide) fun b _ hb => h3.block b hb (by simp)) _ _ Tryz.underlying30 Tryz.underlying5 Tryz.underlying9)
                have hconv := HCV.out _ (Ex.refl _ _ _)
                clear hsl
                go_region_held3 (fun w3 => (convert 30 9 (.slice none 0 0)).run Tryz.prog w3 = .ok (.string (strOf (r.take 0))) w3) (first | exact HCV.out _ H2.out | exact HCV.out _ (Ex.refl _ _ _) | exact HCV.out _ (Ex.drew (Ex.refl _ _ _)) | exact HCV.out _ (Ex.drew H2.out)) (first | (go_at_call 96; refine (rest02_any (.slice none 0 0) (r.drop 0) _ (HS2.out _ (by repeat (first | exact Ex.refl _ _ _ | refine Ex.drew ?_))).sl (by rw [List.length_drop, ← HMR.out]; omega)).mono ?_; rintro e w2 ⟨u2, rfl, hu2, hex2⟩; have H2 : Hid (Ex w1.heap.size none w1 w2) := Lib.hid ((Ex.drew (Ex.refl _ _ _)).trans hex2 (by simp) (by simp)); have HU2 := Lib.hid hu2; clear hu2 hex2) | fail)
                go_wp2
                go_ret3
                exact ⟨u2, by rw [HT.out]; rfl, by rw [HT.out]; exact HU2.out.mono fun b hb _ => by have := HE.out.size; simp at hb; omega, HE.out.trans H2.out HE.out.size (by simp)⟩
              · skip
                have hsl : Sl byRep (fun b => w.heap.size ≤ b) w1 (.slice none 0 cap1) (r.take 0) := ⟨none, cap1, by rw [hr0]; rfl, by rw [hr0]; exact SlAt.nil _ _ _⟩
                have hs2 : SlC (fun b => w.heap.size ≤ b) w1 (.slice none 0 cap1) (r.drop 0) := ⟨none, cap1, by rw [hr0]; rfl, by rw [hr0]; exact Nat.zero_le _, by rw [hr0]; exact SlAt.nil _ _ _⟩
                have HS2 : Hid (∀ w3, Ex w1.heap.size none w1 w3 → SlC (fun b => w.heap.size ≤ b) w3 (.slice none 0 cap1) (r.drop 0)) := Lib.hid (fun w3 h3 => hs2.keep fun b _ hb => h3.block b hb (by simp))
                clear hs2
                have HCV : Hid (∀ w3, Ex w1.heap.size none w1 w3 → (convert 30 9 (.slice none 0 cap1)).run Tryz.prog w3 = .ok (.string (strOf (r.take 0))) w3) := Lib.hid (fun w3 h3 => run_strOf (hsl.keep (by decide) fun b _ hb => h3.block b hb (by simp)) _ _ Tryz.underlying30 Tryz.underlying5 Tryz.underlying9)
                have hconv := HCV.out _ (Ex.refl _ _ _)
                clear hsl
                go_region_held3 (fun w3 => (convert 30 9 (.slice none 0 cap1)).run Tryz.prog w3 = .ok (.string (strOf (r.take 0))) w3) (first | exact HCV.out _ H2.out | exact HCV.out _ (Ex.refl _ _ _) | exact HCV.out _ (Ex.drew (Ex.refl _ _ _)) | exact HCV.out _ (Ex.drew H2.out)) (first | (go_at_call 96; refine (rest02_any (.slice none 0 cap1) (r.drop 0) _ (HS2.out _ (by repeat (first | exact Ex.refl _ _ _ | refine Ex.drew ?_))).sl (by rw [List.length_drop, ← HMR.out]; omega)).mono ?_; rintro e w2 ⟨u2, rfl, hu2, hex2⟩; have H2 : Hid (Ex w1.heap.size none w1 w2) := Lib.hid ((Ex.drew (Ex.refl _ _ _)).trans hex2 (by simp) (by simp)); have HU2 := Lib.hid hu2; clear hu2 hex2) | fail)
                go_wp2
                go_ret3
                exact ⟨u2, by rw [HT.out]; rfl, by rw [HT.out]; exact HU2.out.mono fun b hb _ => by have := HE.out.size; simp at hb; omega, HE.out.trans H2.out HE.out.size (by simp)⟩
            | some ad =>
              obtain ⟨bb, off, sp⟩ := ad
              by_cases hcz : cap1 = 0
              · subst hcz
                have hsl : Sl byRep (fun b => w.heap.size ≤ b) w1 (.slice (some ⟨bb, off, sp⟩) 0 0) (r.take 0) := ⟨(some ⟨bb, off, sp⟩), 0, by rw [hr0]; rfl, by rw [hr0]; exact SlAt.nil _ _ _⟩
                have hs2 : SlC (fun b => w.heap.size ≤ b) w1 (.slice (some ⟨bb, off, sp⟩) 0 0) (r.drop 0) := ⟨(some ⟨bb, off, sp⟩), 0, by rw [hr0]; rfl, by rw [hr0]; exact Nat.zero_le _, by rw [hr0]; exact SlAt.nil _ _ _⟩
                have HS2 : Hid (∀ w3, Ex w1.heap.size none w1 w3 → SlC (fun b => w.heap.size ≤ b) w3 (.slice (some ⟨bb, off, sp⟩) 0 0) (r.drop 0)) := Lib.hid (fun w3 h3 => hs2.keep fun b _ hb => h3.block b hb (by simp))
                clear hs2
                have HCV : Hid (∀ w3, Ex w1.heap.size none w1 w3 → (convert 30 9 (.slice (some ⟨bb, off, sp⟩) 0 0)).run Tryz.prog w3 = .ok (.string (strOf (r.take 0))) w3) := Lib.hid (fun w3 h3 => run_strOf (hsl.keep (by decide) fun b _ hb => h3.block b hb (by simp)) _ _ Tryz.underlying30 Tryz.underlying5 Tryz.underlying9)
                have hconv := HCV.out _ (Ex.refl _ _ _)
                clear hsl
                go_region_held3 (fun w3 => (convert 30 9 (.slice (some ⟨bb, off, sp⟩) 0 0)).run Tryz.prog w3 = .ok (.string (strOf (r.take 0))) w3) (first | exact HCV.out _ H2.out | exact HCV.out _ (Ex.refl _ _ _) | exact HCV.out _ (Ex.drew (Ex.refl _ _ _)) | exact HCV.out _ (Ex.drew H2.out)) (first | (go_at_call 96; refine (rest02_any (.slice (some ⟨bb, off, sp⟩) 0 0) (r.drop 0) _ (HS2.out _ (by repeat (first | exact Ex.refl _ _ _ | refine Ex.drew ?_))).sl (by rw [List.length_drop, ← HMR.out]; omega)).mono ?_; rintro e w2 ⟨u2, rfl, hu2, hex2⟩; have H2 : Hid (Ex w1.heap.size none w1 w2) := Lib.hid ((Ex.drew (Ex.refl _ _ _)).trans hex2 (by simp) (by simp)); have HU2 := Lib.hid hu2; clear hu2 hex2) | fail)
                go_wp2
                go_ret3
                exact ⟨u2, by rw [HT.out]; rfl, by rw [HT.out]; exact HU2.out.mono fun b hb _ => by have := HE.out.size; simp at hb; omega, HE.out.trans H2.out HE.out.size (by simp)⟩
              · skip
                have hsl : Sl byRep (fun b => w.heap.size ≤ b) w1 (.slice (some ⟨bb, off, sp⟩) 0 cap1) (r.take 0) := ⟨(some ⟨bb, off, sp⟩), cap1, by rw [hr0]; rfl, by rw [hr0]; exact SlAt.nil _ _ _⟩
                have hs2 : SlC (fun b => w.heap.size ≤ b) w1 (.slice (some ⟨bb, off, sp⟩) 0 cap1) (r.drop 0) := ⟨(some ⟨bb, off, sp⟩), cap1, by rw [hr0]; rfl, by rw [hr0]; exact Nat.zero_le _, by rw [hr0]; exact SlAt.nil _ _ _⟩
                have HS2 : Hid (∀ w3, Ex w1.heap.size none w1 w3 → SlC (fun b => w.heap.size ≤ b) w3 (.slice (some ⟨bb, off, sp⟩) 0 cap1) (r.drop 0)) := Lib.hid (fun w3 h3 => hs2.keep fun b _ hb => h3.block b hb (by simp))
                clear hs2
                have HCV : Hid (∀ w3, Ex w1.heap.size none w1 w3 → (convert 30 9 (.slice (some ⟨bb, off, sp⟩) 0 cap1)).run Tryz.prog w3 = .ok (.string (strOf (r.take 0))) w3) := Lib.hid (fun w3 h3 => run_strOf (hsl.keep (by decide) fun b _ hb => h3.block b hb (by simp)) _ _ Tryz.underlying30 Tryz.underlying5 Tryz.underlying9)
                have hconv := HCV.out _ (Ex.refl _ _ _)
                clear hsl
                go_region_held3 (fun w3 => (convert 30 9 (.slice (some ⟨bb, off, sp⟩) 0 cap1)).run Tryz.prog w3 = .ok (.string (strOf (r.take 0))) w3) (first | exact HCV.out _ H2.out | exact HCV.out _ (Ex.refl _ _ _) | exact HCV.out _ (Ex.drew (Ex.refl _ _ _)) | exact HCV.out _ (Ex.drew H2.out)) (first | (go_at_call 96; refine (rest02_any (.slice (some ⟨bb, off, sp⟩) 0 cap1) (r.drop 0) _ (HS2.out _ (by repeat (first | exact Ex.refl _ _ _ | refine Ex.drew ?_))).sl (by rw [List.length_drop, ← HMR.out]; omega)).mono ?_; rintro e w2 ⟨u2, rfl, hu2, hex2⟩; have H2 : Hid (Ex w1.heap.size none w1 w2) := Lib.hid ((Ex.drew (Ex.refl _ _ _)).trans hex2 (by simp) (by simp)); have HU2 := Lib.hid hu2; clear hu2 hex2) | fail)
                go_wp2
                go_ret3
                exact ⟨u2, by rw [HT.out]; rfl, by rw [HT.out]; exact HU2.out.mono fun b hb _ => by have := HE.out.size; simp at hb; omega, HE.out.trans H2.out HE.out.size (by simp)⟩
          · obtain ⟨bb, off, hao, _, hbb, _⟩ := by_get HX1.out 0 (by have := HMR.out; omega)
            subst hao
            by_cases hjz : cap1 = j
            · subst hjz
              obtain rfl : mr = cap1 := by omega
              have hsl : Sl byRep (fun b => w.heap.size ≤ b) w1 (.slice (some ⟨bb, off, none⟩) mr mr) (r.take mr) := ⟨_, _, by rw [List.length_take, ← HMR.out, Nat.min_self], HX1.out.take mr⟩
              have hs2 : SlC (fun b => w.heap.size ≤ b) w1 (.slice (some ⟨bb, off, none⟩) 0 0) (r.drop mr) := ⟨_, _, by rw [List.length_drop, ← HMR.out, Nat.sub_self], by rw [List.length_drop, ← HMR.out]; omega, fun i hi => by rw [List.length_drop, ← HMR.out] at hi; omega⟩
              have HS2 : Hid (∀ w3, Ex w1.heap.size none w1 w3 → SlC (fun b => w.heap.size ≤ b) w3 (.slice (some ⟨bb, off, none⟩) 0 0) (r.drop mr)) := Lib.hid (fun w3 h3 => hs2.keep fun b _ hb => h3.block b hb (by simp))
              clear hs2
              have HCV : Hid (∀ w3, Ex w1.heap.size none w1 w3 → (convert 30 9 (.slice (some ⟨bb, off, none⟩) mr mr)).run Tryz.prog w3 = .ok (.string (strOf (r.take mr))) w3) := Lib.hid (fun w3 h3 => run_strOf (hsl.keep (by decide) fun b _ hb => h3.block b hb (by simp)) _ _ Tryz.underlying30 Tryz.underlying5 Tryz.underlying9)
              have hconv := HCV.out _ (Ex.refl _ _ _)
              clear hsl
              go_region_held3 (fun w3 => (convert 30 9 (.slice (some ⟨bb, off, none⟩) mr mr)).run Tryz.prog w3 = .ok (.string (strOf (r.take mr))) w3) (first | exact HCV.out _ H2.out | exact HCV.out _ (Ex.refl _ _ _) | exact HCV.out _ (Ex.drew (Ex.refl _ _ _)) | exact HCV.out _ (Ex.drew H2.out)) (first | (go_at_call 96; refine (rest02_any (.slice (some ⟨bb, off, none⟩) 0 0) (r.drop mr) _ (HS2.out _ (by repeat (first | exact Ex.refl _ _ _ | refine Ex.drew ?_))).sl (by rw [List.length_drop, ← HMR.out]; omega)).mono ?_; rintro e w2 ⟨u2, rfl, hu2, hex2⟩; have H2 : Hid (Ex w1.heap.size none w1 w2) := Lib.hid ((Ex.drew (Ex.refl _ _ _)).trans hex2 (by simp) (by simp)); have HU2 := Lib.hid hu2; clear hu2 hex2) | fail)
              go_wp2
              go_ret3
              exact ⟨u2, by rw [HT.out]; rfl, by rw [HT.out]; exact HU2.out.mono fun b hb _ => by have := HE.out.size; simp at hb; omega, HE.out.trans H2.out HE.out.size (by simp)⟩
            · have hjl : j < cap1 := by omega
              have HDR : Hid (SlAt byRep (fun b => w.heap.size ≤ b) w1 (some ⟨bb, off + j, none⟩) (r.drop j)) := Lib.hid (by have := HX1.out.drop j; rwa [show j * byRep.k = j by simp [byRep, valRep]] at this)
              have hsl : Sl byRep (fun b => w.heap.size ≤ b) w1 (.slice (some ⟨bb, off, none⟩) j cap1) (r.take j) := ⟨_, _, by rw [List.length_take, ← HMR.out, Nat.min_eq_left hjm], HX1.out.take j⟩
              have hs2 : SlC (fun b => w.heap.size ≤ b) w1 (.slice (some ⟨bb, off + j, none⟩) (mr - j) (cap1 - j)) (r.drop j) := ⟨_, _, by rw [List.length_drop, ← HMR.out], by rw [List.length_drop, ← HMR.out]; omega, HDR.out⟩
              have HS2 : Hid (∀ w3, Ex w1.heap.size none w1 w3 → SlC (fun b => w.heap.size ≤ b) w3 (.slice (some ⟨bb, off + j, none⟩) (mr - j) (cap1 - j)) (r.drop j)) := Lib.hid (fun w3 h3 => hs2.keep fun b _ hb => h3.block b hb (by simp))
              clear hs2
              have HCV : Hid (∀ w3, Ex w1.heap.size none w1 w3 → (convert 30 9 (.slice (some ⟨bb, off, none⟩) j cap1)).run Tryz.prog w3 = .ok (.string (strOf (r.take j))) w3) := Lib.hid (fun w3 h3 => run_strOf (hsl.keep (by decide) fun b _ hb => h3.block b hb (by simp)) _ _ Tryz.underlying30 Tryz.underlying5 Tryz.underlying9)
              have hconv := HCV.out _ (Ex.refl _ _ _)
              clear hsl
              go_region_held3 (fun w3 => (convert 30 9 (.slice (some ⟨bb, off, none⟩) j cap1)).run Tryz.prog w3 = .ok (.string (strOf (r.take j))) w3) (first | exact HCV.out _ H2.out | exact HCV.out _ (Ex.refl _ _ _) | exact HCV.out _ (Ex.drew (Ex.refl _ _ _)) | exact HCV.out _ (Ex.drew H2.out)) (first | (go_at_call 96; refine (rest02_any (.slice (some ⟨bb, off + j, none⟩) (mr - j) (cap1 - j)) (r.drop j) _ (HS2.out _ (by repeat (first | exact Ex.refl _ _ _ | refine Ex.drew ?_))).sl (by rw [List.length_drop, ← HMR.out]; omega)).mono ?_; rintro e w2 ⟨u2, rfl, hu2, hex2⟩; have H2 : Hid (Ex w1.heap.size none w1 w2) := Lib.hid ((Ex.drew (Ex.refl _ _ _)).trans hex2 (by simp) (by simp)); have HU2 := Lib.hid hu2; clear hu2 hex2) | fail)
              go_wp2
              go_ret3
              exact ⟨u2, by rw [HT.out]; rfl, by rw [HT.out]; exact HU2.out.mono fun b hb _ => by have := HE.out.size; simp at hb; omega, HE.out.trans H2.out HE.out.size (by simp)⟩

set_option maxHeartbeats 8000000 in
set_option maxRecDepth 100000 in
theorem takeText_any {P : Nat → Prop} (v : Value) (xs : List UInt8) (most : Int) (w : World) (hv : SlC P w v xs) (hm : xs.length ≤ 1000000) :
    Calls Tryz.prog 50 #[v, .int .i64 most] w fun e w' => ∃ u, e = .returned (.tuple #[.string ((takeT xs most).getD (⟨#[]⟩, [])).1, u, .bool (takeT xs most).isSome]) ∧ SlC (fun b => w.heap.size ≤ b) w' u ((takeT xs most).getD (⟨#[]⟩, [])).2 ∧ Ex w.heap.size none w w' := by
  have HV := Lib.hid hv
  clear hv
  cases hT : takeI xs with
  | none =>
    have HT : Hid (takeT xs most = none) := Lib.hid (takeT_short hT)
    have HTI := Lib.hid hT
    clear hT
    go_enter Tryz.func50, Tryz.ntmps50
    go_wp2_with (first | (go_at_call 91; refine (takeInt_none v xs w HV.out hm HTI.out).mono ?_; rintro e w1 ⟨u1, rfl, hu, hex⟩; have HE := Lib.hid hex; clear hu hex) | fail)
    go_ret3
    exact ⟨.slice none 0 0, by rw [HT.out]; rfl, by rw [HT.out]; exact SlC.nil _ _, HE.out⟩
  | some q =>
    obtain ⟨n, r⟩ := q
    obtain ⟨mr, hmr⟩ : ∃ mr, mr = r.length := ⟨_, rfl⟩
    have hrl : r.length + 8 = xs.length := (takeI_len hT).symm
    have HMR := Lib.hid hmr
    have hmb : mr ≤ 1000000 := by omega
    clear hrl
    by_cases h0 : n < 0
    · have hd0 : decide (n < 0) = true := decide_eq_true h0
      rcases (⟨0, rfl⟩ : ∃ z : Nat, z = 0) with ⟨z, hz⟩
      · have HT : Hid (takeT xs most = none) := Lib.hid (takeT_no hT (.inl h0))
        have HTI := Lib.hid hT
        clear hT
        clear hz hmr
        go_enter Tryz.func50, Tryz.ntmps50
        go_wp2_with (first | (go_at_call 91; refine (takeInt_some v xs w HV.out hm HTI.out).mono ?_; rintro e w1 ⟨u1, rfl, ⟨ao1, cap1, rfl, hc1, hx1⟩, hex⟩; rw [← HMR.out]; have HE := Lib.hid hex; clear hc1 hx1 hex) | fail)
        go_ret3
        exact ⟨.slice none 0 0, by rw [HT.out]; rfl, by rw [HT.out]; exact SlC.nil _ _, HE.out⟩
    · have hd0 : decide (n < 0) = false := decide_eq_false h0
      by_cases h1 : most < n
      · have hd1 : decide (most < n) = true := decide_eq_true h1
        clear hmr
        rcases (⟨0, rfl⟩ : ∃ z : Nat, z = 0) with ⟨z, hz⟩
        · have HT : Hid (takeT xs most = none) := Lib.hid (takeT_no hT (.inr (.inl h1)))
          have HTI := Lib.hid hT
          clear hT
          clear hz
          go_enter Tryz.func50, Tryz.ntmps50
          go_wp2_with (first | (go_at_call 91; refine (takeInt_some v xs w HV.out hm HTI.out).mono ?_; rintro e w1 ⟨u1, rfl, ⟨ao1, cap1, rfl, hc1, hx1⟩, hex⟩; rw [← HMR.out]; have HE := Lib.hid hex; clear hc1 hx1 hex) | fail)
          go_ret3
          exact ⟨.slice none 0 0, by rw [HT.out]; rfl, by rw [HT.out]; exact SlC.nil _ _, HE.out⟩
      · have hd1 : decide (most < n) = false := decide_eq_false h1
        by_cases h2 : (mr : Int) < n
        · have hd2 : decide ((mr : Int) < n) = true := decide_eq_true h2
          rcases (⟨0, rfl⟩ : ∃ z : Nat, z = 0) with ⟨z, hz⟩
          · have HT : Hid (takeT xs most = none) := Lib.hid (takeT_no hT (.inr (.inr (by rw [← hmr]; exact h2))))
            have HTI := Lib.hid hT
            clear hT
            clear hz hmr
            go_enter Tryz.func50, Tryz.ntmps50
            go_wp2_with (first | (go_at_call 91; refine (takeInt_some v xs w HV.out hm HTI.out).mono ?_; rintro e w1 ⟨u1, rfl, ⟨ao1, cap1, rfl, hc1, hx1⟩, hex⟩; rw [← HMR.out]; have HE := Lib.hid hex; clear hc1 hx1 hex) | fail)
            go_ret3
            exact ⟨.slice none 0 0, by rw [HT.out]; rfl, by rw [HT.out]; exact SlC.nil _ _, HE.out⟩
        · obtain ⟨j, rfl⟩ : ∃ j : Nat, n = (j : Int) := ⟨n.toNat, by omega⟩
          have hd2 : decide ((mr : Int) < (j : Int)) = false := decide_eq_false h2
          have hd2N : decide (mr < j) = false := decide_eq_false (by omega)
          have HT : Hid (takeT xs most = some (strOf (r.take j), r.drop j)) := Lib.hid (by rw [takeT_yes hT (by rw [← hmr]; omega)]; rfl)
          have HTI := Lib.hid hT
          have hjm : j ≤ mr := by omega
          have hjmI : (j : Int) ≤ (mr : Int) := by omega
          have hj0 : (0 : Int) ≤ (j : Int) := by omega
          clear hT hmr h0 h1 h2
          go_enter Tryz.func50, Tryz.ntmps50
          go_upto_region 4 with (first | (go_at_call 91; refine (takeInt_some v xs w HV.out hm HTI.out).mono ?_; rintro e w1 ⟨u1, rfl, ⟨ao1, cap1, rfl, hc1, hx1⟩, hex⟩; rw [← HMR.out]; rw [← HMR.out] at hc1; have HE := Lib.hid hex; have HX1 := Lib.hid hx1; clear hx1 hex) | fail)
          have hjc : j ≤ cap1 := by omega
          have hjcI : (j : Int) ≤ (cap1 : Int) := by omega
          by_cases hm0 : mr = 0
          · obtain rfl : j = 0 := by omega
            subst hm0
            have hr0 : r = [] := List.eq_nil_of_length_eq_zero HMR.out.symm
            cases ao1 with
            | none =>
              by_cases hcz : cap1 = 0
              · subst hcz
                have hsl : Sl byRep (fun b => w.heap.size ≤ b) w1 (.slice none 0 0) (r.take 0) := ⟨none, 0, by rw [hr0]; rfl, by rw [hr0]; exact SlAt.nil _ _ _⟩
                have hs2 : SlC (fun b => w.heap.size ≤ b) w1 (.slice none 0 0) (r.drop 0) := ⟨none, 0, by rw [hr0]; rfl, by rw [hr0]; exact Nat.zero_le _, by rw [hr0]; exact SlAt.nil _ _ _⟩
                have HS2 : Hid (∀ w3, Ex w1.heap.size none w1 w3 → SlC (fun b => w.heap.size ≤ b) w3 (.slice none 0 0) (r.drop 0)) := Lib.hid (fun w3 h3 => hs2.keep fun b _ hb => h3.block b hb (by simp))
                clear hs2
                have hconv : ∀ n, (convert 30 9 (.slice none 0 0)).run Tryz.prog (w1.drewN n) = .ok (.string (strOf (r.take 0))) (w1.drewN n) := fun n => run_strOf (hsl.keep (by decide) fun b _ hb => (Ex.drewN (n := n) (Ex.refl w1.heap.size none w1)).block b hb (by simp)) _ _ Tryz.underlying30 Tryz.underlying5 Tryz.underlying9
                clear hsl
                go_quiet (fail)
                go_wp2
                go_ret3
                exact ⟨(.slice none 0 0), by rw [HT.out]; rfl, by rw [HT.out]; exact HS2.out _ (Ex.drewN (Ex.refl _ _ _)), HE.out.drewN⟩
              · skip
                have hsl : Sl byRep (fun b => w.heap.size ≤ b) w1 (.slice none 0 cap1) (r.take 0) := ⟨none, cap1, by rw [hr0]; rfl, by rw [hr0]; exact SlAt.nil _ _ _⟩
                have hs2 : SlC (fun b => w.heap.size ≤ b) w1 (.slice none 0 cap1) (r.drop 0) := ⟨none, cap1, by rw [hr0]; rfl, by rw [hr0]; exact Nat.zero_le _, by rw [hr0]; exact SlAt.nil _ _ _⟩
                have HS2 : Hid (∀ w3, Ex w1.heap.size none w1 w3 → SlC (fun b => w.heap.size ≤ b) w3 (.slice none 0 cap1) (r.drop 0)) := Lib.hid (fun w3 h3 => hs2.keep fun b _ hb => h3.block b hb (by simp))
                clear hs2
                have hconv : ∀ n, (convert 30 9 (.slice none 0 cap1)).run Tryz.prog (w1.drewN n) = .ok (.string (strOf (r.take 0))) (w1.drewN n) := fun n => run_strOf (hsl.keep (by decide) fun b _ hb => (Ex.drewN (n := n) (Ex.refl w1.heap.size none w1)).block b hb (by simp)) _ _ Tryz.underlying30 Tryz.underlying5 Tryz.underlying9
                clear hsl
                go_quiet (fail)
                go_wp2
                go_ret3
                exact ⟨(.slice none 0 cap1), by rw [HT.out]; rfl, by rw [HT.out]; exact HS2.out _ (Ex.drewN (Ex.refl _ _ _)), HE.out.drewN⟩
            | some ad =>
              obtain ⟨bb, off, sp⟩ := ad
              by_cases hcz : cap1 = 0
              · subst hcz
                have hsl : Sl byRep (fun b => w.heap.size ≤ b) w1 (.slice (some ⟨bb, off, sp⟩) 0 0) (r.take 0) := ⟨(some ⟨bb, off, sp⟩), 0, by rw [hr0]; rfl, by rw [hr0]; exact SlAt.nil _ _ _⟩
                have hs2 : SlC (fun b => w.heap.size ≤ b) w1 (.slice (some ⟨bb, off, sp⟩) 0 0) (r.drop 0) := ⟨(some ⟨bb, off, sp⟩), 0, by rw [hr0]; rfl, by rw [hr0]; exact Nat.zero_le _, by rw [hr0]; exact SlAt.nil _ _ _⟩
                have HS2 : Hid (∀ w3, Ex w1.heap.size none w1 w3 → SlC (fun b => w.heap.size ≤ b) w3 (.slice (some ⟨bb, off, sp⟩) 0 0) (r.drop 0)) := Lib.hid (fun w3 h3 => hs2.keep fun b _ hb => h3.block b hb (by simp))
                clear hs2
                have hconv : ∀ n, (convert 30 9 (.slice (some ⟨bb, off, sp⟩) 0 0)).run Tryz.prog (w1.drewN n) = .ok (.string (strOf (r.take 0))) (w1.drewN n) := fun n => run_strOf (hsl.keep (by decide) fun b _ hb => (Ex.drewN (n := n) (Ex.refl w1.heap.size none w1)).block b hb (by simp)) _ _ Tryz.underlying30 Tryz.underlying5 Tryz.underlying9
                clear hsl
                go_quiet (fail)
                go_wp2
                go_ret3
                exact ⟨(.slice (some ⟨bb, off, sp⟩) 0 0), by rw [HT.out]; rfl, by rw [HT.out]; exact HS2.out _ (Ex.drewN (Ex.refl _ _ _)), HE.out.drewN⟩
              · skip
                have hsl : Sl byRep (fun b => w.heap.size ≤ b) w1 (.slice (some ⟨bb, off, sp⟩) 0 cap1) (r.take 0) := ⟨(some ⟨bb, off, sp⟩), cap1, by rw [hr0]; rfl, by rw [hr0]; exact SlAt.nil _ _ _⟩
                have hs2 : SlC (fun b => w.heap.size ≤ b) w1 (.slice (some ⟨bb, off, sp⟩) 0 cap1) (r.drop 0) := ⟨(some ⟨bb, off, sp⟩), cap1, by rw [hr0]; rfl, by rw [hr0]; exact Nat.zero_le _, by rw [hr0]; exact SlAt.nil _ _ _⟩
                have HS2 : Hid (∀ w3, Ex w1.heap.size none w1 w3 → SlC (fun b => w.heap.size ≤ b) w3 (.slice (some ⟨bb, off, sp⟩) 0 cap1) (r.drop 0)) := Lib.hid (fun w3 h3 => hs2.keep fun b _ hb => h3.block b hb (by simp))
                clear hs2
                have hconv : ∀ n, (convert 30 9 (.slice (some ⟨bb, off, sp⟩) 0 cap1)).run Tryz.prog (w1.drewN n) = .ok (.string (strOf (r.take 0))) (w1.drewN n) := fun n => run_strOf (hsl.keep (by decide) fun b _ hb => (Ex.drewN (n := n) (Ex.refl w1.heap.size none w1)).block b hb (by simp)) _ _ Tryz.underlying30 Tryz.underlying5 Tryz.underlying9
                clear hsl
                go_quiet (fail)
                go_wp2
                go_ret3
                exact ⟨(.slice (some ⟨bb, off, sp⟩) 0 cap1), by rw [HT.out]; rfl, by rw [HT.out]; exact HS2.out _ (Ex.drewN (Ex.refl _ _ _)), HE.out.drewN⟩
          · obtain ⟨bb, off, hao, _, hbb, _⟩ := by_get HX1.out 0 (by have := HMR.out; omega)
            subst hao
            by_cases hjz : cap1 = j
            · subst hjz
              obtain rfl : mr = cap1 := by omega
              have hsl : Sl byRep (fun b => w.heap.size ≤ b) w1 (.slice (some ⟨bb, off, none⟩) mr mr) (r.take mr) := ⟨_, _, by rw [List.length_take, ← HMR.out, Nat.min_self], HX1.out.take mr⟩
              have hs2 : SlC (fun b => w.heap.size ≤ b) w1 (.slice (some ⟨bb, off, none⟩) 0 0) (r.drop mr) := ⟨_, _, by rw [List.length_drop, ← HMR.out, Nat.sub_self], by rw [List.length_drop, ← HMR.out]; omega, fun i hi => by rw [List.length_drop, ← HMR.out] at hi; omega⟩
              have HS2 : Hid (∀ w3, Ex w1.heap.size none w1 w3 → SlC (fun b => w.heap.size ≤ b) w3 (.slice (some ⟨bb, off, none⟩) 0 0) (r.drop mr)) := Lib.hid (fun w3 h3 => hs2.keep fun b _ hb => h3.block b hb (by simp))
              clear hs2
              have hconv : ∀ n, (convert 30 9 (.slice (some ⟨bb, off, none⟩) mr mr)).run Tryz.prog (w1.drewN n) = .ok (.string (strOf (r.take mr))) (w1.drewN n) := fun n => run_strOf (hsl.keep (by decide) fun b _ hb => (Ex.drewN (n := n) (Ex.refl w1.heap.size none w1)).block b hb (by simp)) _ _ Tryz.underlying30 Tryz.underlying5 Tryz.underlying9
              clear hsl
              go_quiet (fail)
              go_wp2
              go_ret3
              exact ⟨(.slice (some ⟨bb, off, none⟩) 0 0), by rw [HT.out]; rfl, by rw [HT.out]; exact HS2.out _ (Ex.drewN (Ex.refl _ _ _)), HE.out.drewN⟩
            · have hjl : j < cap1 := by omega
              have HDR : Hid (SlAt byRep (fun b => w.heap.size ≤ b) w1 (some ⟨bb, off + j, none⟩) (r.drop j)) := Lib.hid (by have := HX1.out.drop j; rwa [show j * byRep.k = j by simp [byRep, valRep]] at this)
              have hsl : Sl byRep (fun b => w.heap.size ≤ b) w1 (.slice (some ⟨bb, off, none⟩) j cap1) (r.take j) := ⟨_, _, by rw [List.length_take, ← HMR.out, Nat.min_eq_left hjm], HX1.out.take j⟩
              have hs2 : SlC (fun b => w.heap.size ≤ b) w1 (.slice (some ⟨bb, off + j, none⟩) (mr - j) (cap1 - j)) (r.drop j) := ⟨_, _, by rw [List.length_drop, ← HMR.out], by rw [List.length_drop, ← HMR.out]; omega, HDR.out⟩
              have HS2 : Hid (∀ w3, Ex w1.heap.size none w1 w3 → SlC (fun b => w.heap.size ≤ b) w3 (.slice (some ⟨bb, off + j, none⟩) (mr - j) (cap1 - j)) (r.drop j)) := Lib.hid (fun w3 h3 => hs2.keep fun b _ hb => h3.block b hb (by simp))
              clear hs2
              have hconv : ∀ n, (convert 30 9 (.slice (some ⟨bb, off, none⟩) j cap1)).run Tryz.prog (w1.drewN n) = .ok (.string (strOf (r.take j))) (w1.drewN n) := fun n => run_strOf (hsl.keep (by decide) fun b _ hb => (Ex.drewN (n := n) (Ex.refl w1.heap.size none w1)).block b hb (by simp)) _ _ Tryz.underlying30 Tryz.underlying5 Tryz.underlying9
              clear hsl
              go_quiet (fail)
              go_wp2
              go_ret3
              exact ⟨(.slice (some ⟨bb, off + j, none⟩) (mr - j) (cap1 - j)), by rw [HT.out]; rfl, by rw [HT.out]; exact HS2.out _ (Ex.drewN (Ex.refl _ _ _)), HE.out.drewN⟩

theorem takeText02_some {P : Nat → Prop} (v : Value) (xs : List UInt8) (most : Int) (w : World) (hv : SlC P w v xs) (hm : xs.length ≤ 1000000) {n : ByteArray} {r : List UInt8} (h : takeT xs most = some (n, r)) :
    Calls Tryz.prog 52 #[v, .int .i64 most] w fun e w' => ∃ u, e = .returned (.tuple #[.string n, u, .bool true]) ∧ SlC (fun b => w.heap.size ≤ b) w' u r ∧ Ex w.heap.size none w w' :=
  (takeText02_any v xs most w hv hm).mono fun e w' ⟨u, h1, h2, h3⟩ => by rw [h] at h1 h2; exact ⟨u, h1, h2, h3⟩
theorem takeText02_none {P : Nat → Prop} (v : Value) (xs : List UInt8) (most : Int) (w : World) (hv : SlC P w v xs) (hm : xs.length ≤ 1000000) (h : takeT xs most = none) :
    Calls Tryz.prog 52 #[v, .int .i64 most] w fun e w' => ∃ u, e = .returned (.tuple #[.string ⟨#[]⟩, u, .bool false]) ∧ SlC (fun b => w.heap.size ≤ b) w' u [] ∧ Ex w.heap.size none w w' :=
  (takeText02_any v xs most w hv hm).mono fun e w' ⟨u, h1, h2, h3⟩ => by rw [h] at h1 h2; exact ⟨u, h1, h2, h3⟩

theorem takeText_some {P : Nat → Prop} (v : Value) (xs : List UInt8) (most : Int) (w : World) (hv : SlC P w v xs) (hm : xs.length ≤ 1000000) {n : ByteArray} {r : List UInt8} (h : takeT xs most = some (n, r)) :
    Calls Tryz.prog 50 #[v, .int .i64 most] w fun e w' => ∃ u, e = .returned (.tuple #[.string n, u, .bool true]) ∧ SlC (fun b => w.heap.size ≤ b) w' u r ∧ Ex w.heap.size none w w' :=
  (takeText_any v xs most w hv hm).mono fun e w' ⟨u, h1, h2, h3⟩ => by rw [h] at h1 h2; exact ⟨u, h1, h2, h3⟩
theorem takeText_none {P : Nat → Prop} (v : Value) (xs : List UInt8) (most : Int) (w : World) (hv : SlC P w v xs) (hm : xs.length ≤ 1000000) (h : takeT xs most = none) :
    Calls Tryz.prog 50 #[v, .int .i64 most] w fun e w' => ∃ u, e = .returned (.tuple #[.string ⟨#[]⟩, u, .bool false]) ∧ SlC (fun b => w.heap.size ≤ b) w' u [] ∧ Ex w.heap.size none w w' :=
  (takeText_any v xs most w hv hm).mono fun e w' ⟨u, h1, h2, h3⟩ => by rw [h] at h1 h2; exact ⟨u, h1, h2, h3⟩
end Go.Proofs.YtoeklgbajggndaaGreat

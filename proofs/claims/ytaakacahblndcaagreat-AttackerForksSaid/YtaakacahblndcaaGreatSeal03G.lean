/- ref03.Digest, Sealed, Seal: contracts, no statement of the seat. -/
import Derived.Test.YtaakacahblndcaaGreatMg06
import Derived.Test.YtaakacahblndcaaGreatMg00
import Derived.Great.BuildSlice
namespace Go.Proofs.YtaakacahblndcaaGreat
open Go.RowKit Go.Sort

theorem stB_len {s : St} (h : Tame s) : (stB s).length ≤ 3000000 := by
  have h1 := stB3_len h s.pins.length
  have h2 := h.body
  rw [stB_eq, List.length_append, List.length_append, int8_len, strL_len]
  omega
set_option maxHeartbeats 4000000 in
set_option maxRecDepth 100000 in
theorem digest03_any {P : Nat → Prop} (s : St) (lo po : Option Addr) (ln lc pn pc : Nat) (w : World) (hs : Lies P w (s, ⟨lo, ln, lc⟩, ⟨po, pn, pc⟩)) (ht : Tame s) :
    Calls Tryz.prog 43 #[.agg #[.int .i64 s.author, .int .i64 s.number, .string s.prev, .int .i64 s.time, .int .i64 s.kind, .int .i64 s.a, .int .i64 s.b, .int .i64 s.c, .slice lo ln lc, .slice po pn pc, .string s.body, .int .i64 s.key, .string s.dig]] w fun e w' => e = .returned (.string (sha (stB s))) ∧ Ex w.heap.size none w w' := by
  have HT := Lib.hid ht
  have HLS := Lib.hid hs
  clear hs ht
  go_enter Tryz.func43, Tryz.ntmps43
  go_wp2_with (first
    | (go_at_call 85; refine (bytes03_any s lo po ln lc pn pc _ (HLS.out.keep fun b _ hb => (Ex.new w _).block b hb (by simp)) HT.out).mono ?_; rintro e w1 ⟨v1, rfl, hv1, hex1⟩; have HV1 := Lib.hid hv1; have HE1 := Lib.hid hex1; clear hv1 hex1)
    | (go_at_call 84; refine (sum01_any v1 (stB s) _ HV1.out.sl (by have := stB_len HT.out; omega)).mono ?_; rintro e w2 ⟨rfl, hex2⟩))
  go_ret
  exact ⟨rfl, ((Ex.new w _).trans HE1.out (by simp) (by simp)).trans hex2 (by have := HE1.out.size; simp at this; omega) (by simp)⟩

theorem Ex.setRow {B : Nat} {p : Option Nat} {a w : World} (h : Ex B p a w) (g : Nat) (cs : Array Value) (hp : p = some g ∨ B ≤ g) : Ex B p a (w.setRow g cs) :=
  ⟨h.os, h.tape, h.output, by simpa using h.size, fun k hk hne => (setRow_other _ _ _ _ (by
    rcases hp with hp | hp
    · intro e; exact hne (by rw [hp, e])
    · omega)).trans (h.block k hk hne)⟩
theorem Tryz.sizeSt : (Tryz.prog.info? 37).map (·.size) = some 13 := by kernel_rfl
/-- Sealed by its author. -/
def sealedB (s : St) : Bool := decide (s.key = s.author) && decide (s.dig = sha (stB s))
theorem toListB (a b : ByteArray) : (a.toList == b.toList) = decide (a = b) := by
  by_cases h : a = b
  · rw [(bytes_beq h).2, decide_eq_true h]
  · rw [(bytes_nbeq h).2, decide_eq_false h]
set_option maxHeartbeats 4000000 in
set_option maxRecDepth 100000 in
theorem sealed03_any {P : Nat → Prop} (s : St) (lo po : Option Addr) (ln lc pn pc : Nat) (w : World) (hs : Lies P w (s, ⟨lo, ln, lc⟩, ⟨po, pn, pc⟩)) (ht : Tame s) :
    Calls Tryz.prog 12 #[.agg #[.int .i64 s.author, .int .i64 s.number, .string s.prev, .int .i64 s.time, .int .i64 s.kind, .int .i64 s.a, .int .i64 s.b, .int .i64 s.c, .slice lo ln lc, .slice po pn pc, .string s.body, .int .i64 s.key, .string s.dig]] w fun e w' => e = .returned (.bool (sealedB s)) ∧ Ex w.heap.size none w w' := by
  have HT := Lib.hid ht
  have HLS := Lib.hid hs
  clear hs ht
  obtain ⟨w0, hw0⟩ : ∃ w0 : World, w0 = w.alloc (.cells #[.int .i64 s.author, .int .i64 s.number, .string s.prev, .int .i64 s.time, .int .i64 s.kind, .int .i64 s.a, .int .i64 s.b, .int .i64 s.c, .slice lo ln lc, .slice po pn pc, .string s.body, .int .i64 s.key, .string s.dig] 37) := ⟨_, rfl⟩
  have hz0 : w.heap.size < w0.heap.size := by rw [hw0]; simp
  have HE0 : Hid (Ex w.heap.size none w w0) := by rw [hw0]; exact Ex.new w _
  have hq := fun p0 : ExW w0 => (st_block ((p0.ex.block w.heap.size hz0 (by simp)).trans (by rw [hw0]; exact heap_alloc_new w _))).1
  have HD : Hid (∀ p0 : ExW w0, Calls Tryz.prog 43 #[.agg #[.int .i64 s.author, .int .i64 s.number, .string s.prev, .int .i64 s.time, .int .i64 s.kind, .int .i64 s.a, .int .i64 s.b, .int .i64 s.c, .slice lo ln lc, .slice po pn pc, .string s.body, .int .i64 s.key, .string s.dig]] p0.w' fun e w' => e = .returned (.string (sha (stB s))) ∧ Ex p0.w'.heap.size none p0.w' w') := fun p0 => digest03_any s lo po ln lc pn pc _ (HLS.out.keep fun b _ hb => (HE0.out.trans p0.ex (by omega) (by simp)).block b hb (by simp)) HT.out
  have HQ := Lib.hid hq
  clear hq
  by_cases hk : s.key = s.author
  · have hkd : (s.key == s.author) = true := by simpa using hk
    have HR : Hid (sealedB s = (s.dig.toList == (sha (stB s)).toList)) := Lib.hid (by simp [sealedB, hk, toListB])
    have HK := Lib.hid hk
    clear hk
    go_enter Tryz.func12, Tryz.ntmps12
    go_upto_region 1 with (fail)
    rw [← hw0]
    clear hw0
    have hq := HQ.out
    refine wp_region_quiet_ex (by kernel_rfl) (by kernel_rfl) ?_
    repeat (go_big_quiet_step ((go_at_call 43; refine calls_ex_of (HD.out _))))
    refine wpQuiet_nil ?_
    intro _ hw'
    obtain ⟨p9, hw''⟩ := hw'
    subst hw''
    clear hq
    go_wp2
    go_ret
    exact ⟨by rw [HR.out]; rfl, HE0.out.trans p9.ex (by omega) (by simp)⟩
  · have hkd : (s.key == s.author) = false := by simpa using hk
    have HR : Hid (sealedB s = false) := Lib.hid (by simp [sealedB, hk])
    clear hk
    go_enter Tryz.func12, Tryz.ntmps12
    go_upto_region 1 with (fail)
    rw [← hw0]
    clear hw0
    have hq := HQ.out
    refine wp_region_quiet_ex (by kernel_rfl) (by kernel_rfl) ?_
    repeat (go_big_quiet_step (fail))
    refine wpQuiet_nil ?_
    intro _ hw'
    obtain ⟨p9, hw''⟩ := hw'
    subst hw''
    clear hq
    go_wp2
    go_ret
    exact ⟨by rw [HR.out]; rfl, HE0.out.trans p9.ex (by omega) (by simp)⟩

/-- Sealed anew. -/
def sealS (s : St) : St := { s with key := s.author, dig := sha (stB s) }
end Go.Proofs.YtaakacahblndcaaGreat

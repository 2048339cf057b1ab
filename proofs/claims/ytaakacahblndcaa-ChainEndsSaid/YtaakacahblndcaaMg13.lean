/- chain.Fork: a contract, no statement of the seat. | law04.awake: its walk. No statement of the seat. | The contracts of law04.ChainEnds at its own chains. No statement of the seat. -/
import Derived.Test.YtaakacahblndcaaMg09
import Derived.Test.YtaakacahblndcaaMg06
import Derived.Test.YtaakacahblndcaaMg01
import Derived.Laws.ResultCell
import Derived.Deep.RegionHeld3
import Derived.Test.YtaakacahblndcaaMg12
import Derived.Test.YtaakacahblndcaaMg10
import Derived.Test.YtaakacahblndcaaDiceWG
namespace Go.Proofs.Ytaakacahblndcaa
open Go.RowKit Go.Sort
attribute [local go_sem ↓] rowStore_fork

set_option maxHeartbeats 16000000 in
set_option maxRecDepth 100000 in
theorem forkC_any {P : Nat → Prop} (v : Value) (l : List St) (a : Int) (w : World) (hv : Sl stRep P w v l) (hm : l.length ≤ 100000) (hL : LightL 1000000 l) :
    Calls Try.prog 12 #[.int .i64 a, v] w fun e w' => ∃ ls, LinksR a l ls ∧ ∃ cs, e = .returned (.tuple #[.agg cs, .bool (forkF ls).isSome]) ∧ ForkC w' w.heap.size cs (forkF ls) ∧ Ex w.heap.size none w w' := by
  have HX := Lib.hid (hv.mono (P' := fun b => b < w.heap.size) (by decide) fun b _ hb => hb)
  have HLL := Lib.hid hL
  clear hv hL
  obtain ⟨w0, hw0⟩ : ∃ w0 : World, w0 = w.alloc (.cells #[.int .i64 0, .int .i64 0, .string ⟨#[]⟩, .int .i64 0, .int .i64 0, .int .i64 0, .int .i64 0, .int .i64 0, .slice none 0 0, .slice none 0 0, .string ⟨#[]⟩, .int .i64 0, .string ⟨#[]⟩, .int .i64 0, .int .i64 0, .string ⟨#[]⟩, .int .i64 0, .int .i64 0, .int .i64 0, .int .i64 0, .int .i64 0, .slice none 0 0, .slice none 0 0, .string ⟨#[]⟩, .int .i64 0, .string ⟨#[]⟩] 42) := ⟨_, rfl⟩
  have hz0 : w0.heap.size = w.heap.size + 1 := by rw [hw0]; simp
  have HE0 : Hid (Ex w.heap.size none w w0) := Lib.hid (by rw [hw0]; exact Ex.new w _)
  have HB0 : Hid (w0.heap[w.heap.size]? = some (.cells #[.int .i64 0, .int .i64 0, .string ⟨#[]⟩, .int .i64 0, .int .i64 0, .int .i64 0, .int .i64 0, .int .i64 0, .slice none 0 0, .slice none 0 0, .string ⟨#[]⟩, .int .i64 0, .string ⟨#[]⟩, .int .i64 0, .int .i64 0, .string ⟨#[]⟩, .int .i64 0, .int .i64 0, .int .i64 0, .int .i64 0, .int .i64 0, .slice none 0 0, .slice none 0 0, .string ⟨#[]⟩, .int .i64 0, .string ⟨#[]⟩] 42 (0, 0))) := Lib.hid (by rw [hw0]; exact heap_alloc_new w _)
  go_enter Try.func12, Try.ntmps12
  go_upto_region 1 with (fail)
  rw [← hw0]
  clear hw0
  go_wp2_with (first
    | (go_at_call 23
       refine (links_any v l a w0 (HX.out.keep (by decide) fun b _ hb => HE0.out.block b hb (by simp)) hm (fun s hs => ⟨by have := (HLL.out s hs).1; omega, by have := (HLL.out s hs).2; omega⟩)).mono ?_
       rintro e w1 ⟨u, ls, rfl, hLR, ⟨ao, cap, rfl, hsl⟩, hll, hex1⟩
       have H1 : Hid (LinksR a l ls ∧ SlAt linkRep (fun b => b < w.heap.size ∨ w0.heap.size ≤ b) w1 ao ls ∧ Ex w0.heap.size none w0 w1) := Lib.hid ⟨hLR, hsl, hex1⟩
       have hz1 : w0.heap.size ≤ w1.heap.size := hex1.size
       clear hLR hsl hex1)
    | fail)
  obtain ⟨n, hn⟩ : ∃ n, n = ls.length := ⟨_, rfl⟩
  have HN := Lib.hid hn
  rw [← hn] at hll ⊢
  clear hn
  go_loopw [7] (fun i wr => ∃ kp : Nat, i = .int .i64 ((kp : Int) + 1) ∧ (kp + 1 ≤ n ∨ kp = 0) ∧ Hid (∀ j x y, j < kp → ls[j]? = some x → ls[j + 1]? = some y → ¬ x.number = y.number) ∧ Ex w1.heap.size none w1 wr) (fun i _ => n + 1 - (intOf i).toNat)
  case atStart => exact ⟨0, by go_num, .inr rfl, Lib.hid (fun j x y hj => by omega), Ex.refl _ _ _⟩
  case round =>
    obtain ⟨kp, rfl, hkp, HNO, hex⟩ := hrel
    have hsz := hex.size
    have HRX := Lib.hid hex
    clear hex
    by_cases hlt : kp + 1 < n
    · have hltI : (kp : Int) + 1 < (n : Int) := by omega
      have p0 : (0 : Int) ≤ (kp : Int) + 1 := by omega
      have e0 : ((kp : Int) + 1).toNat = kp + 1 := by omega
      have hwp : IntKind.i64.wrap ((kp : Int) + 1 - 1) = (kp : Int) := by rw [IntKind.wrap_i64]; omega
      have hwp2 : IntKind.i64.wrap ((kp : Int) + 1 + 1) = (kp : Int) + 1 + 1 := by rw [IntKind.wrap_i64]; omega
      have hkl : (kp : Int) < (n : Int) := by omega
      have hk0 : (0 : Int) ≤ (kp : Int) := by omega
      have hwp3 : IntKind.i64.wrap (kp : Int) = (kp : Int) := by rw [IntKind.wrap_i64]; omega
      have hkn : kp < n := by omega
      obtain ⟨b, off, s, ⟨lo, ln, lc⟩, ⟨po, pn, pc⟩, hao, hPb, hls, hrs, HXs⟩ := link_get H1.out.2.1 kp (by rw [← HN.out]; omega)
      subst hao
      obtain ⟨b', off', t, ⟨lo', ln', lc'⟩, ⟨po', pn', pc'⟩, hao, _, hlt', hrt, HXt⟩ := link_get H1.out.2.1 (kp + 1) (by rw [← HN.out]; omega)
      cases hao
      have hbl := rangeAt_lt hrs (by rw [linkE_len]; omega)
      have hbw : b ≠ w.heap.size := by rcases hPb with h | h <;> omega
      have HQ : Hid (∀ w', Ex w1.heap.size (some w.heap.size) w1 w' → w'.cell? ⟨b, off + kp * 14, none⟩ = some (.int .i64 s.author) ∧ w'.cell? ⟨b, off + kp * 14 + 1, none⟩ = some (.int .i64 s.number) ∧ w'.cell? ⟨b, off + kp * 14 + 2, none⟩ = some (.string s.prev) ∧ w'.cell? ⟨b, off + kp * 14 + 3, none⟩ = some (.int .i64 s.time) ∧ w'.cell? ⟨b, off + kp * 14 + 4, none⟩ = some (.int .i64 s.kind) ∧ w'.cell? ⟨b, off + kp * 14 + 5, none⟩ = some (.int .i64 s.a) ∧ w'.cell? ⟨b, off + kp * 14 + 6, none⟩ = some (.int .i64 s.b) ∧ w'.cell? ⟨b, off + kp * 14 + 7, none⟩ = some (.int .i64 s.c) ∧ w'.cell? ⟨b, off + kp * 14 + 8, none⟩ = some (.slice lo ln lc) ∧ w'.cell? ⟨b, off + kp * 14 + 9, none⟩ = some (.slice po pn pc) ∧ w'.cell? ⟨b, off + kp * 14 + 10, none⟩ = some (.string s.body) ∧ w'.cell? ⟨b, off + kp * 14 + 11, none⟩ = some (.int .i64 s.key) ∧ w'.cell? ⟨b, off + kp * 14 + 12, none⟩ = some (.string s.dig) ∧ w'.cell? ⟨b, off + (kp + 1) * 14, none⟩ = some (.int .i64 t.author) ∧ w'.cell? ⟨b, off + (kp + 1) * 14 + 1, none⟩ = some (.int .i64 t.number) ∧ w'.cell? ⟨b, off + (kp + 1) * 14 + 2, none⟩ = some (.string t.prev) ∧ w'.cell? ⟨b, off + (kp + 1) * 14 + 3, none⟩ = some (.int .i64 t.time) ∧ w'.cell? ⟨b, off + (kp + 1) * 14 + 4, none⟩ = some (.int .i64 t.kind) ∧ w'.cell? ⟨b, off + (kp + 1) * 14 + 5, none⟩ = some (.int .i64 t.a) ∧ w'.cell? ⟨b, off + (kp + 1) * 14 + 6, none⟩ = some (.int .i64 t.b) ∧ w'.cell? ⟨b, off + (kp + 1) * 14 + 7, none⟩ = some (.int .i64 t.c) ∧ w'.cell? ⟨b, off + (kp + 1) * 14 + 8, none⟩ = some (.slice lo' ln' lc') ∧ w'.cell? ⟨b, off + (kp + 1) * 14 + 9, none⟩ = some (.slice po' pn' pc') ∧ w'.cell? ⟨b, off + (kp + 1) * 14 + 10, none⟩ = some (.string t.body) ∧ w'.cell? ⟨b, off + (kp + 1) * 14 + 11, none⟩ = some (.int .i64 t.key) ∧ w'.cell? ⟨b, off + (kp + 1) * 14 + 12, none⟩ = some (.string t.dig)) := Lib.hid (fun w' h => by
        have e := h.block b hbl (by simp; omega)
        obtain ⟨h0, h1, h2, h3, h4, h5, h6, h7, h8, h9, h10, h11, h12, _⟩ := link_at (rangeAt_keep hrs e)
        obtain ⟨g0, g1, g2, g3, g4, g5, g6, g7, g8, g9, g10, g11, g12, _⟩ := link_at (rangeAt_keep hrt e)
        exact ⟨h0, h1, h2, h3, h4, h5, h6, h7, h8, h9, h10, h11, h12, g0, g1, g2, g3, g4, g5, g6, g7, g8, g9, g10, g11, g12⟩)
      have HLS : Hid (∀ w', Ex w1.heap.size (some w.heap.size) w1 w' → Lies (fun b => b < w.heap.size ∨ w0.heap.size ≤ b) w' (s, ⟨lo, ln, lc⟩, ⟨po, pn, pc⟩) ∧ Lies (fun b => b < w.heap.size ∨ w0.heap.size ≤ b) w' (t, ⟨lo', ln', lc'⟩, ⟨po', pn', pc'⟩)) := Lib.hid (fun w' h =>
        ⟨hls.keep fun b hb hb2 => h.block b hb2 (by simp; rcases hb with h | h <;> omega), hlt'.keep fun b hb hb2 => h.block b hb2 (by simp; rcases hb with h | h <;> omega)⟩)
      have HRW : Hid (Ex w1.heap.size (some w.heap.size) w1 wr) := Lib.hid (HRX.out.weaken _)
      clear hls hrs hlt' hrt hPb
      by_cases te : s.number = t.number
      · have k1 : (t.number == s.number) = true := by simp [te]
        have HF : Hid (forkF ls = some (s, t)) := Lib.hid (forkF_some HNO.out HXs.out HXt.out te)
        have HLI : Hid ((s.list.length ≤ 1000000 ∧ s.pins.length ≤ 1000000) ∧ (t.list.length ≤ 1000000 ∧ t.pins.length ≤ 1000000)) := Lib.hid (by
          have hl := H1.out.1.mem
          exact ⟨HLL.out s (hl s (List.mem_of_getElem? HXs.out)), HLL.out t (hl t (List.mem_of_getElem? HXt.out))⟩)
        have HBR : Hid (∀ w', Ex w1.heap.size none w1 w' → w'.heap[w.heap.size]? = some (.cells #[.int .i64 0, .int .i64 0, .string ⟨#[]⟩, .int .i64 0, .int .i64 0, .int .i64 0, .int .i64 0, .int .i64 0, .slice none 0 0, .slice none 0 0, .string ⟨#[]⟩, .int .i64 0, .string ⟨#[]⟩, .int .i64 0, .int .i64 0, .string ⟨#[]⟩, .int .i64 0, .int .i64 0, .int .i64 0, .int .i64 0, .int .i64 0, .slice none 0 0, .slice none 0 0, .string ⟨#[]⟩, .int .i64 0, .string ⟨#[]⟩] 42 (0, 0))) := Lib.hid (fun w' h => (h.block _ (by omega) (by simp)).trans ((H1.out.2.2.block _ (by omega) (by simp)).trans HB0.out))
        clear te
        have hq := fun p : ExW wr => HQ.out p.w' (HRW.out.trans (p.ex.weaken _) hsz (fun q e _ => e))
        go_upto_region 5 with (fail)
        refine wp_region_quiet_ex (by kernel_rfl) (by kernel_rfl) ?_
        repeat (go_big_quiet_step (fail))
        refine wpQuiet_nil ?_
        intro _ hw'
        obtain ⟨p9, hw''⟩ := hw'
        subst hw''
        clear hq
        obtain ⟨w4, hw4⟩ : ∃ w4, w4 = p9.w' := ⟨_, rfl⟩
        have HX4 : Hid (Ex w1.heap.size none w1 w4) := Lib.hid (by rw [hw4]; exact HRX.out.trans p9.ex hsz (by simp))
        have hz4 : w1.heap.size ≤ w4.heap.size := HX4.out.size
        rw [← hw4]
        clear hw4 HRX
        have HRX : Hid (Ex w1.heap.size (some w.heap.size) w1 w4) := Lib.hid (HX4.out.weaken _)
        have hq := HQ.out w4 HRX.out
        go_upto_region 6 with (fail)
        go_region_held3 (fun w' => w'.cell? ⟨b, off + kp * 14, none⟩ = some (.int .i64 s.author) ∧ w'.cell? ⟨b, off + kp * 14 + 1, none⟩ = some (.int .i64 s.number) ∧ w'.cell? ⟨b, off + kp * 14 + 2, none⟩ = some (.string s.prev) ∧ w'.cell? ⟨b, off + kp * 14 + 3, none⟩ = some (.int .i64 s.time) ∧ w'.cell? ⟨b, off + kp * 14 + 4, none⟩ = some (.int .i64 s.kind) ∧ w'.cell? ⟨b, off + kp * 14 + 5, none⟩ = some (.int .i64 s.a) ∧ w'.cell? ⟨b, off + kp * 14 + 6, none⟩ = some (.int .i64 s.b) ∧ w'.cell? ⟨b, off + kp * 14 + 7, none⟩ = some (.int .i64 s.c) ∧ w'.cell? ⟨b, off + kp * 14 + 8, none⟩ = some (.slice lo ln lc) ∧ w'.cell? ⟨b, off + kp * 14 + 9, none⟩ = some (.slice po pn pc) ∧ w'.cell? ⟨b, off + kp * 14 + 10, none⟩ = some (.string s.body) ∧ w'.cell? ⟨b, off + kp * 14 + 11, none⟩ = some (.int .i64 s.key) ∧ w'.cell? ⟨b, off + kp * 14 + 12, none⟩ = some (.string s.dig) ∧ w'.cell? ⟨b, off + (kp + 1) * 14, none⟩ = some (.int .i64 t.author) ∧ w'.cell? ⟨b, off + (kp + 1) * 14 + 1, none⟩ = some (.int .i64 t.number) ∧ w'.cell? ⟨b, off + (kp + 1) * 14 + 2, none⟩ = some (.string t.prev) ∧ w'.cell? ⟨b, off + (kp + 1) * 14 + 3, none⟩ = some (.int .i64 t.time) ∧ w'.cell? ⟨b, off + (kp + 1) * 14 + 4, none⟩ = some (.int .i64 t.kind) ∧ w'.cell? ⟨b, off + (kp + 1) * 14 + 5, none⟩ = some (.int .i64 t.a) ∧ w'.cell? ⟨b, off + (kp + 1) * 14 + 6, none⟩ = some (.int .i64 t.b) ∧ w'.cell? ⟨b, off + (kp + 1) * 14 + 7, none⟩ = some (.int .i64 t.c) ∧ w'.cell? ⟨b, off + (kp + 1) * 14 + 8, none⟩ = some (.slice lo' ln' lc') ∧ w'.cell? ⟨b, off + (kp + 1) * 14 + 9, none⟩ = some (.slice po' pn' pc') ∧ w'.cell? ⟨b, off + (kp + 1) * 14 + 10, none⟩ = some (.string t.body) ∧ w'.cell? ⟨b, off + (kp + 1) * 14 + 11, none⟩ = some (.int .i64 t.key) ∧ w'.cell? ⟨b, off + (kp + 1) * 14 + 12, none⟩ = some (.string t.dig)) (exact HQ.out _ (by repeat (first | with_reducible exact HX7.out | with_reducible exact HX2.out | with_reducible exact HX1.out | with_reducible exact HRX.out | with_reducible exact Ex.refl _ _ _ | with_reducible refine Ex.setCell ?_ _ none _ (.inl rfl) | with_reducible refine Ex.drew ?_)))
          (first
            | (go_at_call 17
               fail_if_success (have _x := HX1)
               refine (copied_any s lo po ln lc pn pc _ (HLS.out _ (by repeat (first | with_reducible exact HX7.out | with_reducible exact HX2.out | with_reducible exact HX1.out | with_reducible exact HRX.out | with_reducible exact Ex.refl _ _ _ | with_reducible refine Ex.setCell ?_ _ none _ (.inl rfl) | with_reducible refine Ex.drew ?_))).1 HLI.out.1).mono ?_
               rintro e w5 ⟨la, na, ca, pa, np, cp, rfl, hl5, hex5⟩
               have HN1 : Hid (Ex w1.heap.size none w1 w5) := Lib.hid ((by repeat (first | with_reducible exact HX4.out | with_reducible refine Ex.drew ?_) : Ex w1.heap.size none w1 _).trans hex5 (by first | omega | (simp; omega)) (by simp))
               have HX1 : Hid (Ex w1.heap.size (some w.heap.size) w1 w5) := Lib.hid (HN1.out.weaken _)
               have HL1 : Hid (Lies (fun b => w1.heap.size ≤ b) w5 (s, ⟨la, na, ca⟩, ⟨pa, np, cp⟩)) := Lib.hid (hl5.mono fun b h _ => by first | omega | (simp at h; omega))
               have hz5 : w1.heap.size ≤ w5.heap.size := HN1.out.size
               clear hl5 hex5)
            | (go_at_call 17
               refine (copied_any t lo' po' ln' lc' pn' pc' _ (HLS.out _ (by repeat (first | with_reducible exact HX7.out | with_reducible exact HX2.out | with_reducible exact HX1.out | with_reducible exact HRX.out | with_reducible exact Ex.refl _ _ _ | with_reducible refine Ex.setCell ?_ _ none _ (.inl rfl) | with_reducible refine Ex.drew ?_))).2 HLI.out.2).mono ?_
               rintro e w6 ⟨lb, nb, cb, pb, nq, cq, rfl, hl6, hex6⟩
               have HN2 : Hid (Ex w1.heap.size none w1 w6) := Lib.hid ((by repeat (first | with_reducible exact HN1.out | with_reducible refine Ex.drew ?_) : Ex w1.heap.size none w1 _).trans hex6 (by first | omega | (simp; omega)) (by simp))
               have HX2 : Hid (Ex w1.heap.size (some w.heap.size) w1 w6) := Lib.hid (HN2.out.weaken _)
               have HL2 : Hid (Lies (fun b => w1.heap.size ≤ b) w6 (s, ⟨la, na, ca⟩, ⟨pa, np, cp⟩) ∧ Lies (fun b => w1.heap.size ≤ b) w6 (t, ⟨lb, nb, cb⟩, ⟨pb, nq, cq⟩)) := Lib.hid ⟨HL1.out.keep fun b _ hb => hex6.block b (by first | omega | (simp; omega)) (by simp), hl6.mono fun b h _ => by first | omega | (simp at h; omega)⟩
               have hz6 : w1.heap.size ≤ w6.heap.size := HN2.out.size
               clear hl6 hex6
               have HBX := Lib.hid (HBR.out _ HN2.out)
               obtain ⟨w7, hw7⟩ : ∃ w7, w7 = w6.setRow w.heap.size #[.int .i64 s.author, .int .i64 s.number, .string s.prev, .int .i64 s.time, .int .i64 s.kind, .int .i64 s.a, .int .i64 s.b, .int .i64 s.c, .slice la na ca, .slice pa np cp, .string s.body, .int .i64 s.key, .string s.dig, .int .i64 t.author, .int .i64 t.number, .string t.prev, .int .i64 t.time, .int .i64 t.kind, .int .i64 t.a, .int .i64 t.b, .int .i64 t.c, .slice lb nb cb, .slice pb nq cq, .string t.body, .int .i64 t.key, .string t.dig] := ⟨_, rfl⟩
               have hst := run_rowStore (P := Try.prog) w6 w.heap.size 42 42 _ #[.int .i64 s.author, .int .i64 s.number, .string s.prev, .int .i64 s.time, .int .i64 s.kind, .int .i64 s.a, .int .i64 s.b, .int .i64 s.c, .slice la na ca, .slice pa np cp, .string s.body, .int .i64 s.key, .string s.dig, .int .i64 t.author, .int .i64 t.number, .string t.prev, .int .i64 t.time, .int .i64 t.kind, .int .i64 t.a, .int .i64 t.b, .int .i64 t.c, .slice lb nb cb, .slice pb nq cq, .string t.body, .int .i64 t.key, .string t.dig] HBX.out Try.sizeFork rfl (by simp [Value.oneCell'])
               rw [← hw7] at hst
               have HX7 : Hid (Ex w1.heap.size (some w.heap.size) w1 w7) := Lib.hid (by rw [hw7]; exact HX2.out.setRow _ _ (.inl rfl))
               have HW7 := Lib.hid hw7
               clear hw7)
            | fail)
        clear hq
        have hw7 := HW7.out
        have hrb : w7.heap[w.heap.size]? = some (.cells #[.int .i64 s.author, .int .i64 s.number, .string s.prev, .int .i64 s.time, .int .i64 s.kind, .int .i64 s.a, .int .i64 s.b, .int .i64 s.c, .slice la na ca, .slice pa np cp, .string s.body, .int .i64 s.key, .string s.dig, .int .i64 t.author, .int .i64 t.number, .string t.prev, .int .i64 t.time, .int .i64 t.kind, .int .i64 t.a, .int .i64 t.b, .int .i64 t.c, .slice lb nb cb, .slice pb nq cq, .string t.body, .int .i64 t.key, .string t.dig] 42 (0, 0)) := by rw [hw7]; exact setRow_heap _ _ _ _ _ _ (HBR.out _ HN2.out)
        have HE7 : Hid (Ex w.heap.size none w w7) := Lib.hid (by rw [hw7]; exact Ex.setRow ((HE0.out.trans H1.out.2.2 (by omega) (by simp)).trans HN2.out (by omega) (by simp)) _ _ (.inr (Nat.le_refl _)))
        have HL7 : Hid (Lies (fun b => w1.heap.size ≤ b) w7 (s, ⟨la, na, ca⟩, ⟨pa, np, cp⟩) ∧ Lies (fun b => w1.heap.size ≤ b) w7 (t, ⟨lb, nb, cb⟩, ⟨pb, nq, cq⟩)) := Lib.hid (by
          rw [hw7]
          exact ⟨HL2.out.1.keep fun b h _ => setRow_other _ _ _ _ (by omega), HL2.out.2.keep fun b h _ => setRow_other _ _ _ _ (by omega)⟩)
        clear hw7
        go_wp2_with (fail)
        have hr := run_loadVar_row (P := Try.prog) _ w.heap.size 42 42 (#[.int .i64 s.author, .int .i64 s.number, .string s.prev, .int .i64 s.time, .int .i64 s.kind, .int .i64 s.a, .int .i64 s.b, .int .i64 s.c, .slice la na ca, .slice pa np cp, .string s.body, .int .i64 s.key, .string s.dig, .int .i64 t.author, .int .i64 t.number, .string t.prev, .int .i64 t.time, .int .i64 t.kind, .int .i64 t.a, .int .i64 t.b, .int .i64 t.c, .slice lb nb cb, .slice pb nq cq, .string t.body, .int .i64 t.key, .string t.dig] : Array Value) (0, 0) _ hrb Try.underlying42 rfl Try.sizeFork
        refine bodyPost_ret (v := .tuple #[.agg #[.int .i64 s.author, .int .i64 s.number, .string s.prev, .int .i64 s.time, .int .i64 s.kind, .int .i64 s.a, .int .i64 s.b, .int .i64 s.c, .slice la na ca, .slice pa np cp, .string s.body, .int .i64 s.key, .string s.dig, .int .i64 t.author, .int .i64 t.number, .string t.prev, .int .i64 t.time, .int .i64 t.kind, .int .i64 t.a, .int .i64 t.b, .int .i64 t.c, .slice lb nb cb, .slice pb nq cq, .string t.body, .int .i64 t.key, .string t.dig], .bool true]) ?_ rfl ?_
        · rw [results_cell_tmp Try.results12]
          show ((loadVar 42 ⟨w.heap.size, 0, none⟩).run Try.prog _).andThen _ = _
          rw [hr]
          rfl
        exact ⟨ls, H1.out.1, _, by rw [HF.out]; rfl, by rw [HF.out]; exact ⟨la, na, ca, pa, np, cp, lb, nb, cb, pb, nq, cq, rfl, HL7.out.1.mono fun b h _ => by omega, HL7.out.2.mono fun b h _ => by omega⟩, HE7.out⟩
      · have k1 : (t.number == s.number) = false := by simp; exact fun h => te h.symm
        have HNN : Hid (∀ j x y, j < kp + 1 → ls[j]? = some x → ls[j + 1]? = some y → ¬ x.number = y.number) := Lib.hid (fun j x y hj hx hy => by
          by_cases e : j = kp
          · subst e
            rw [HXs.out] at hx; rw [HXt.out] at hy
            cases hx; cases hy; exact te
          · exact HNO.out j x y (by omega) hx hy)
        clear te
        have hq := fun p : ExW wr => HQ.out p.w' (HRW.out.trans (p.ex.weaken _) hsz (fun q e _ => e))
        go_upto_region 5 with (fail)
        refine wp_region_quiet_ex (by kernel_rfl) (by kernel_rfl) ?_
        repeat (go_big_quiet_step (fail))
        refine wpQuiet_nil ?_
        intro _ hw'
        obtain ⟨p9, hw''⟩ := hw'
        subst hw''
        clear hq
        go_wp2
        go_roundw
        case rel => exact ⟨kp + 1, by go_num, .inl (by omega), HNN, HRX.out.trans p9.ex hsz (by simp)⟩
        case measure => simp [intOf] <;> omega
    · have hltI : ¬ ((kp : Int) + 1 < (n : Int)) := by omega
      have HF : Hid (forkF ls = none) := Lib.hid (forkF_none fun j x y hx hy => by
        have := (List.getElem?_eq_some_iff.1 hy).1
        have hn := HN.out
        exact HNO.out j x y (by omega) hx hy)
      have HBR : Hid (wr.heap[w.heap.size]? = some (.cells #[.int .i64 0, .int .i64 0, .string ⟨#[]⟩, .int .i64 0, .int .i64 0, .int .i64 0, .int .i64 0, .int .i64 0, .slice none 0 0, .slice none 0 0, .string ⟨#[]⟩, .int .i64 0, .string ⟨#[]⟩, .int .i64 0, .int .i64 0, .string ⟨#[]⟩, .int .i64 0, .int .i64 0, .int .i64 0, .int .i64 0, .int .i64 0, .slice none 0 0, .slice none 0 0, .string ⟨#[]⟩, .int .i64 0, .string ⟨#[]⟩] 42 (0, 0))) := Lib.hid ((HRX.out.block _ (by omega) (by simp)).trans ((H1.out.2.2.block _ (by omega) (by simp)).trans HB0.out))
      go_wp2_with (first
        | (refine wpList_store_rowTo rfl 42 (.tmp 4) (.tmp 45) rfl rfl w.heap.size #[.int .i64 0, .int .i64 0, .string ⟨#[]⟩, .int .i64 0, .int .i64 0, .int .i64 0, .int .i64 0, .int .i64 0, .slice none 0 0, .slice none 0 0, .string ⟨#[]⟩, .int .i64 0, .string ⟨#[]⟩, .int .i64 0, .int .i64 0, .string ⟨#[]⟩, .int .i64 0, .int .i64 0, .int .i64 0, .int .i64 0, .int .i64 0, .slice none 0 0, .slice none 0 0, .string ⟨#[]⟩, .int .i64 0, .string ⟨#[]⟩] (by rfl) (by rfl) 42 #[.int .i64 0, .int .i64 0, .string ⟨#[]⟩, .int .i64 0, .int .i64 0, .int .i64 0, .int .i64 0, .int .i64 0, .slice none 0 0, .slice none 0 0, .string ⟨#[]⟩, .int .i64 0, .string ⟨#[]⟩, .int .i64 0, .int .i64 0, .string ⟨#[]⟩, .int .i64 0, .int .i64 0, .int .i64 0, .int .i64 0, .int .i64 0, .slice none 0 0, .slice none 0 0, .string ⟨#[]⟩, .int .i64 0, .string ⟨#[]⟩] HBR.out Try.sizeFork rfl (by simp [Value.oneCell']) ?_)
        | fail)
      obtain ⟨w7, hw7⟩ : ∃ w7, w7 = wr.setRow w.heap.size #[.int .i64 0, .int .i64 0, .string ⟨#[]⟩, .int .i64 0, .int .i64 0, .int .i64 0, .int .i64 0, .int .i64 0, .slice none 0 0, .slice none 0 0, .string ⟨#[]⟩, .int .i64 0, .string ⟨#[]⟩, .int .i64 0, .int .i64 0, .string ⟨#[]⟩, .int .i64 0, .int .i64 0, .int .i64 0, .int .i64 0, .int .i64 0, .slice none 0 0, .slice none 0 0, .string ⟨#[]⟩, .int .i64 0, .string ⟨#[]⟩] := ⟨_, rfl⟩
      have hrb : w7.heap[w.heap.size]? = some (.cells #[.int .i64 0, .int .i64 0, .string ⟨#[]⟩, .int .i64 0, .int .i64 0, .int .i64 0, .int .i64 0, .int .i64 0, .slice none 0 0, .slice none 0 0, .string ⟨#[]⟩, .int .i64 0, .string ⟨#[]⟩, .int .i64 0, .int .i64 0, .string ⟨#[]⟩, .int .i64 0, .int .i64 0, .int .i64 0, .int .i64 0, .int .i64 0, .slice none 0 0, .slice none 0 0, .string ⟨#[]⟩, .int .i64 0, .string ⟨#[]⟩] 42 (0, 0)) := by rw [hw7]; exact setRow_heap _ _ _ _ _ _ HBR.out
      have HE7 : Hid (Ex w.heap.size none w w7) := Lib.hid (by rw [hw7]; exact (((HE0.out.trans H1.out.2.2 (by omega) (by simp)).trans HRX.out (by omega) (by simp))).setRow _ _ (.inr (Nat.le_refl _)))
      rw [← hw7]
      clear hw7
      have hr := run_loadVar_row (P := Try.prog) _ w.heap.size 42 42 (#[.int .i64 0, .int .i64 0, .string ⟨#[]⟩, .int .i64 0, .int .i64 0, .int .i64 0, .int .i64 0, .int .i64 0, .slice none 0 0, .slice none 0 0, .string ⟨#[]⟩, .int .i64 0, .string ⟨#[]⟩, .int .i64 0, .int .i64 0, .string ⟨#[]⟩, .int .i64 0, .int .i64 0, .int .i64 0, .int .i64 0, .int .i64 0, .slice none 0 0, .slice none 0 0, .string ⟨#[]⟩, .int .i64 0, .string ⟨#[]⟩] : Array Value) (0, 0) _ hrb Try.underlying42 rfl Try.sizeFork
      refine bodyPost_ret (v := .tuple #[.agg #[.int .i64 0, .int .i64 0, .string ⟨#[]⟩, .int .i64 0, .int .i64 0, .int .i64 0, .int .i64 0, .int .i64 0, .slice none 0 0, .slice none 0 0, .string ⟨#[]⟩, .int .i64 0, .string ⟨#[]⟩, .int .i64 0, .int .i64 0, .string ⟨#[]⟩, .int .i64 0, .int .i64 0, .int .i64 0, .int .i64 0, .int .i64 0, .slice none 0 0, .slice none 0 0, .string ⟨#[]⟩, .int .i64 0, .string ⟨#[]⟩], .bool false]) ?_ rfl ?_
      · rw [results_cell_tmp Try.results12]
        show ((loadVar 42 ⟨w.heap.size, 0, none⟩).run Try.prog _).andThen _ = _
        rw [hr]
        rfl
      exact ⟨ls, H1.out.1, _, by rw [HF.out]; rfl, by rw [HF.out]; rfl, HE7.out⟩
end Go.Proofs.Ytaakacahblndcaa

namespace Go.Proofs.Ytaakacahblndcaa
open Go.RowKit Go.Sort
attribute [local go_sem ↓] rowLoad_stv rowStore_stv rowBuild_stv rowStore_fork

theorem bareK {s : St} (h : s = kA ∨ s = kB ∨ s = kC ∨ s = kX) : Bare s := by rcases h with rfl | rfl | rfl | rfl <;> exact ⟨rfl, rfl⟩
theorem tameK {s : St} (h : s = kA ∨ s = kB ∨ s = kC ∨ s = kX) : Tame s := by
  rcases h with rfl | rfl | rfl | rfl
  · exact checkI_tame (okB_iff.1 kA_ok).2.1
  · exact checkI_tame (okB_iff.1 kB_ok).2.1
  · exact checkI_tame (okB_iff.1 kC_ok).2.1
  · exact checkI_tame (okB_iff.1 kX_ok).2.1
theorem s0_tame (t ki : Int) : Tame (s0 t ki) := bare_tame (s0_bare t ki) (Nat.zero_le _) (Nat.zero_le _)
theorem num_take {a : Int} {l : List St} (h : NumL a l) (f : FolL l) (ls : List St) (hl : LinksR a l ls) : ls.take (countN ls) = l := by
  rw [h.links hl, h.count f, List.take_length]
theorem nextAw0 (w : World) : Calls Try.prog 8 #[.int .i64 3, .slice none 0 0, .agg #[.int .i64 0, .int .i64 0, .string ⟨#[]⟩, .int .i64 0, .int .i64 10, .int .i64 0, .int .i64 0, .int .i64 0, .slice none 0 0, .slice none 0 0, .string ⟨#[]⟩, .int .i64 0, .string ⟨#[]⟩]] w fun e w' => NextOK kA e ∧ Ex w.heap.size none w w' := by
  have h := nextP_first (P := fun _ => True) 3 none 0 0 [] (s0 0 10) w rfl (SlAt.nil _ _ _) (by simp) (s0_bare _ _) (by omega) (by simp) (s0_tame _ _) (num_take (NumL.nil 3) FolL.nil) rfl (by rw [nxA]; exact (okB_iff.1 kA_ok).2.1)
  rw [nxA] at h
  exact h
theorem nextAw1 {P : Nat → Prop} (ao : Option Addr) (cap : Nat) (w : World) (hx : SlAt stRep P w ao [kA]) : Calls Try.prog 8 #[.int .i64 3, .slice ao 1 cap, .agg #[.int .i64 0, .int .i64 0, .string ⟨#[]⟩, .int .i64 4, .int .i64 10, .int .i64 0, .int .i64 0, .int .i64 0, .slice none 0 0, .slice none 0 0, .string ⟨#[]⟩, .int .i64 0, .string ⟨#[]⟩]] w fun e w' => NextOK kB e ∧ Ex w.heap.size none w w' := by
  have h := nextP_more (P := P) 3 ao 1 cap [kA] (s0 4 10) kA w rfl hx (fun t ht => bareK (by simp at ht; exact .inl ht)) (s0_bare _ _) (by omega) (fun t ht => tameK (by simp at ht; exact .inl ht)) (s0_tame _ _) (num_take kA_num kA_fol) rfl (by decide) (by decide) (by rw [nxB]; exact (okB_iff.1 kB_ok).2.1)
  rw [nxB] at h
  exact h
theorem nextAw2 {P : Nat → Prop} (ao : Option Addr) (cap : Nat) (w : World) (hx : SlAt stRep P w ao [kA, kB]) : Calls Try.prog 8 #[.int .i64 3, .slice ao 2 cap, .agg #[.int .i64 0, .int .i64 0, .string ⟨#[]⟩, .int .i64 5, .int .i64 10, .int .i64 0, .int .i64 0, .int .i64 0, .slice none 0 0, .slice none 0 0, .string ⟨#[]⟩, .int .i64 0, .string ⟨#[]⟩]] w fun e w' => NextOK kC e ∧ Ex w.heap.size none w w' := by
  have h := nextP_more (P := P) 3 ao 2 cap [kA, kB] (s0 5 10) kB w rfl hx (fun t ht => bareK (by simp at ht; exact ht.elim .inl fun h => .inr (.inl h))) (s0_bare _ _) (by omega) (fun t ht => tameK (by simp at ht; exact ht.elim .inl fun h => .inr (.inl h))) (s0_tame _ _) (num_take kAB_num kAB_fol) rfl (by decide) (by decide) (by rw [nxC]; exact (okB_iff.1 kC_ok).2.1)
  rw [nxC] at h
  exact h
theorem nextAw3 {P : Nat → Prop} (ao : Option Addr) (cap : Nat) (w : World) (hx : SlAt stRep P w ao [kA, kB]) : Calls Try.prog 8 #[.int .i64 3, .slice ao 2 cap, .agg #[.int .i64 0, .int .i64 0, .string ⟨#[]⟩, .int .i64 5, .int .i64 11, .int .i64 0, .int .i64 0, .int .i64 0, .slice none 0 0, .slice none 0 0, .string ⟨#[]⟩, .int .i64 0, .string ⟨#[]⟩]] w fun e w' => NextOK kX e ∧ Ex w.heap.size none w w' := by
  have h := nextP_more (P := P) 3 ao 2 cap [kA, kB] (s0 5 11) kB w rfl hx (fun t ht => bareK (by simp at ht; exact ht.elim .inl fun h => .inr (.inl h))) (s0_bare _ _) (by omega) (fun t ht => tameK (by simp at ht; exact ht.elim .inl fun h => .inr (.inl h))) (s0_tame _ _) (num_take kAB_num kAB_fol) rfl (by decide) (by decide) (by rw [nxX]; exact (okB_iff.1 kX_ok).2.1)
  rw [nxX] at h
  exact h

set_option maxHeartbeats 8000000 in
set_option maxRecDepth 100000 in
theorem awake04_any (w : World) : Calls Try.prog 5 #[] w fun e w' => e = .returned (.bool true) ∧ Ex w.heap.size none w w' := by
  go_enter Try.func5, Try.ntmps5
  go_upto_region 2 with (first
    | (go_at_call 8
       refine (nextAw0 w).mono ?_
       rintro e w1 ⟨⟨uA, rfl, hu, hlu⟩, hex⟩
       have HA : Hid (uA.1 = kA ∧ ∀ Q W, Lies Q W uA) := Lib.hid ⟨hu, hlu⟩
       have HE1 : Hid (Ex w.heap.size none w w1) := Lib.hid hex
       have hn := stV_new w1 #[.int .i64 0, .int .i64 0, .string ⟨#[]⟩, .int .i64 0, .int .i64 0, .int .i64 0, .int .i64 0, .int .i64 0, .slice none 0 0, .slice none 0 0, .string ⟨#[]⟩, .int .i64 0, .string ⟨#[]⟩] uA rfl
       clear hu hlu hex)
    | fail)
  refine wp_world (fun W => W = w1.alloc (.cells (stV uA).cells 33)) rfl (fun w2 hw2 => ?_)
  have HE2 : Hid (Ex w.heap.size none w w2) := Lib.hid (by rw [hw2]; exact HE1.out.alloc HE1.out.size _)
  have HBA : Hid (w2.heap[w1.heap.size]? = some (.cells (stV uA).cells 33 (0, 0))) := Lib.hid (by rw [hw2]; exact heap_alloc_new w1 _)
  have hz2 : w1.heap.size < w2.heap.size := (Array.getElem?_eq_some_iff.1 HBA.out).1
  obtain ⟨gA, hgA⟩ : ∃ gA, gA = w1.heap.size := ⟨_, rfl⟩
  rw [← hgA] at hz2 ⊢
  have HQA : Hid (∀ w', Ex w2.heap.size none w2 w' → (rowLoad 33 ⟨gA, 0, none⟩).run Try.prog w' = .ok (stV uA) w') := Lib.hid (fun w' h => by rw [hgA]; exact stV_box ((h.block _ (by omega) (by simp)).trans HBA.out))
  have rA := HQA.out _ (Ex.refl _ _ w2)
  have hl := stV_litN1 w2 uA
  clear hn hw2 hgA
  go_upto_region 3 with (first
    | (go_at_call 8
       refine (nextAw1 (P := fun _ => True) _ 1 _ (by have h := lit_slN (P := fun _ => True) (w := w2.alloc (.cells (flatL stE [uA]).toArray 33)) (g := w2.heap.size) (xs := [uA]) trivial (heap_alloc_new w2 _) (fun x hx => by rw [List.mem_singleton.1 hx]; exact HA.out.2 _ _); simp only [List.map_cons, List.map_nil, HA.out.1] at h; exact h)).mono ?_
       rintro e w3 ⟨⟨uB, rfl, hu, hlu⟩, hex⟩
       have HB : Hid (uB.1 = kB ∧ ∀ Q W, Lies Q W uB) := Lib.hid ⟨hu, hlu⟩
       have HE3 : Hid (Ex w2.heap.size none w2 w3) := Lib.hid ((Ex.new w2 _).thenW hex)
       have hn := stV_new w3 #[.int .i64 0, .int .i64 0, .string ⟨#[]⟩, .int .i64 0, .int .i64 0, .int .i64 0, .int .i64 0, .int .i64 0, .slice none 0 0, .slice none 0 0, .string ⟨#[]⟩, .int .i64 0, .string ⟨#[]⟩] uB rfl
       clear hu hlu hex rA hl)
    | fail)
  refine wp_world (fun W => W = w3.alloc (.cells (stV uB).cells 33)) rfl (fun w4 hw4 => ?_)
  have HE4 : Hid (Ex w2.heap.size none w2 w4) := Lib.hid (by rw [hw4]; exact HE3.out.alloc HE3.out.size _)
  have HBB : Hid (w4.heap[w3.heap.size]? = some (.cells (stV uB).cells 33 (0, 0))) := Lib.hid (by rw [hw4]; exact heap_alloc_new w3 _)
  have hz4 : w3.heap.size < w4.heap.size := (Array.getElem?_eq_some_iff.1 HBB.out).1
  obtain ⟨gB, hgB⟩ : ∃ gB, gB = w3.heap.size := ⟨_, rfl⟩
  rw [← hgB] at hz4 ⊢
  have HQB : Hid (∀ w', Ex w4.heap.size none w4 w' → (rowLoad 33 ⟨gA, 0, none⟩).run Try.prog w' = .ok (stV uA) w' ∧ (rowLoad 33 ⟨gB, 0, none⟩).run Try.prog w' = .ok (stV uB) w') := Lib.hid (fun w' h => by
    refine ⟨HQA.out _ (HE4.out.thenW h), ?_⟩
    rw [hgB]; exact stV_box ((h.block _ (by omega) (by simp)).trans HBB.out))
  obtain ⟨rA, rB⟩ := HQB.out _ (Ex.refl _ _ w4)
  have hl := stV_litN2 w4 uA uB
  have HLAB : Hid (SlAt stRep (fun _ => True) (w4.alloc (.cells (flatL stE [uA, uB]).toArray 33)) (some ⟨w4.heap.size, 0, none⟩) [kA, kB]) := Lib.hid (by
    have h := lit_slN (P := fun _ => True) (w := w4.alloc (.cells (flatL stE [uA, uB]).toArray 33)) (g := w4.heap.size) (xs := [uA, uB]) trivial (heap_alloc_new w4 _) (fun x hx => by
      simp only [List.mem_cons, List.not_mem_nil, or_false] at hx
      rcases hx with rfl | rfl
      · exact HA.out.2 _ _
      · exact HB.out.2 _ _)
    simp only [List.map_cons, List.map_nil, HA.out.1, HB.out.1] at h
    exact h)
  clear hn hw4 hgB
  go_upto_region 4 with (first
    | (go_at_call 8
       refine (nextAw2 (P := fun _ => True) _ 2 _ HLAB.out).mono ?_
       rintro e w5 ⟨⟨uC, rfl, hu, hlu⟩, hex⟩
       have HC : Hid (uC.1 = kC ∧ ∀ Q W, Lies Q W uC) := Lib.hid ⟨hu, hlu⟩
       have HE5 : Hid (Ex w4.heap.size none w4 w5) := Lib.hid ((Ex.new w4 _).thenW hex)
       have hn := stV_new w5 #[.int .i64 0, .int .i64 0, .string ⟨#[]⟩, .int .i64 0, .int .i64 0, .int .i64 0, .int .i64 0, .int .i64 0, .slice none 0 0, .slice none 0 0, .string ⟨#[]⟩, .int .i64 0, .string ⟨#[]⟩] uC rfl
       clear hu hlu hex rA rB hl)
    | fail)
  refine wp_world (fun W => W = w5.alloc (.cells (stV uC).cells 33)) rfl (fun w6 hw6 => ?_)
  have HE6 : Hid (Ex w4.heap.size none w4 w6) := Lib.hid (by rw [hw6]; exact HE5.out.alloc HE5.out.size _)
  have HBC : Hid (w6.heap[w5.heap.size]? = some (.cells (stV uC).cells 33 (0, 0))) := Lib.hid (by rw [hw6]; exact heap_alloc_new w5 _)
  have hz6 : w5.heap.size < w6.heap.size := (Array.getElem?_eq_some_iff.1 HBC.out).1
  obtain ⟨gC, hgC⟩ : ∃ gC, gC = w5.heap.size := ⟨_, rfl⟩
  rw [← hgC] at hz6 ⊢
  have HQC : Hid (∀ w', Ex w6.heap.size none w6 w' → (rowLoad 33 ⟨gA, 0, none⟩).run Try.prog w' = .ok (stV uA) w' ∧ (rowLoad 33 ⟨gB, 0, none⟩).run Try.prog w' = .ok (stV uB) w' ∧ (rowLoad 33 ⟨gC, 0, none⟩).run Try.prog w' = .ok (stV uC) w' ∧ w'.cell? ⟨gC, 12, none⟩ = some (.string kC.dig)) := Lib.hid (fun w' h => by
    have hq := HQB.out _ (HE6.out.thenW h)
    have hb := (h.block w5.heap.size (by omega) (by simp)).trans HBC.out
    refine ⟨hq.1, hq.2, ?_, ?_⟩
    · rw [hgC]; exact stV_box hb
    · rw [hgC, cell_of_row _ _ _ _ _ _ hb]
      show some (Value.string uC.1.dig) = _
      rw [HC.out.1])
  obtain ⟨rA, rB, rC, cC⟩ := HQC.out _ (Ex.refl _ _ w6)
  have hl := stV_litN2 w6 uA uB
  have HLAB2 : Hid (SlAt stRep (fun _ => True) (w6.alloc (.cells (flatL stE [uA, uB]).toArray 33)) (some ⟨w6.heap.size, 0, none⟩) [kA, kB]) := Lib.hid (by
    have h := lit_slN (P := fun _ => True) (w := w6.alloc (.cells (flatL stE [uA, uB]).toArray 33)) (g := w6.heap.size) (xs := [uA, uB]) trivial (heap_alloc_new w6 _) (fun x hx => by
      simp only [List.mem_cons, List.not_mem_nil, or_false] at hx
      rcases hx with rfl | rfl
      · exact HA.out.2 _ _
      · exact HB.out.2 _ _)
    simp only [List.map_cons, List.map_nil, HA.out.1, HB.out.1] at h
    exact h)
  clear hn hw6 hgC
  go_upto_region 5 with (first
    | (go_at_call 8
       refine (nextAw3 (P := fun _ => True) _ 2 _ HLAB2.out).mono ?_
       rintro e w7 ⟨⟨uX, rfl, hu, hlu⟩, hex⟩
       have HX : Hid (uX.1 = kX ∧ ∀ Q W, Lies Q W uX) := Lib.hid ⟨hu, hlu⟩
       have HE7 : Hid (Ex w6.heap.size none w6 w7) := Lib.hid ((Ex.new w6 _).thenW hex)
       have hn := stV_new w7 #[.int .i64 0, .int .i64 0, .string ⟨#[]⟩, .int .i64 0, .int .i64 0, .int .i64 0, .int .i64 0, .int .i64 0, .slice none 0 0, .slice none 0 0, .string ⟨#[]⟩, .int .i64 0, .string ⟨#[]⟩] uX rfl
       clear hu hlu hex rA rB rC cC hl)
    | fail)
  refine wp_world (fun W => W = w7.alloc (.cells (stV uX).cells 33)) rfl (fun w8 hw8 => ?_)
  have HE8 : Hid (Ex w6.heap.size none w6 w8) := Lib.hid (by rw [hw8]; exact HE7.out.alloc HE7.out.size _)
  have HBX : Hid (w8.heap[w7.heap.size]? = some (.cells (stV uX).cells 33 (0, 0))) := Lib.hid (by rw [hw8]; exact heap_alloc_new w7 _)
  have rX := stV_box HBX.out
  obtain ⟨rA, rB, rC, cC⟩ := HQC.out _ HE8.out
  have hl := stV_litN4 w8 uX uB uA uC
  clear hn hw8
  go_upto_region 6 with (fail)
  refine wp_world (fun W => W = w8.alloc (.cells (flatL stE [uX, uB, uA, uC]).toArray 33)) rfl (fun w9 hw9 => ?_)
  have HE9 : Hid (Ex w6.heap.size none w6 w9) := Lib.hid (by rw [hw9]; exact HE8.out.alloc HE8.out.size _)
  obtain ⟨g9, hg9⟩ : ∃ g9, g9 = w8.heap.size := ⟨_, rfl⟩
  have HS9 : Hid (∀ w', Ex w9.heap.size none w9 w' → Sl stRep (fun _ => True) w' (.slice (some ⟨g9, 0, none⟩) 4 4) [kX, kB, kA, kC]) := Lib.hid (fun w' hex => by
    have h := lit_slN (P := fun _ => True) (w := w9) (g := g9) (xs := [uX, uB, uA, uC]) trivial (by rw [hw9, hg9]; exact heap_alloc_new w8 _) (fun x hx => by
      simp only [List.mem_cons, List.not_mem_nil, or_false] at hx
      rcases hx with rfl | rfl | rfl | rfl
      · exact HX.out.2 _ _
      · exact HB.out.2 _ _
      · exact HA.out.2 _ _
      · exact HC.out.2 _ _)
    simp only [List.map_cons, List.map_nil, HA.out.1, HB.out.1, HC.out.1, HX.out.1] at h
    exact ⟨_, 4, rfl, h.keep (by decide) fun b _ hb => hex.block b hb (by simp)⟩)
  have HLL : Hid (LightL 1000000 [kX, kB, kA, kC]) := Lib.hid (fun s hs => by
    have hb : Bare s := bareK (by simp only [List.mem_cons, List.not_mem_nil, or_false] at hs; rcases hs with h | h | h | h <;> simp [h])
    rw [hb.1, hb.2]; exact ⟨Nat.zero_le _, Nat.zero_le _⟩)
  rw [← hg9]
  clear hl hw9 hg9 rX rA rB rC cC
  go_upto_region 7 with (first
    | (go_at_call 12
       refine (forkC_any (P := fun _ => True) _ [kX, kB, kA, kC] 3 w9 (HS9.out _ (Ex.refl _ _ w9)) (by decide) HLL.out).mono ?_
       rintro e w10 ⟨ls, hls, cs, he, hcs, hex⟩
       rw [four_links hls, four_fork] at he hcs
       have he2 : e = .returned (.tuple #[.agg cs, .bool true]) := he
       subst he2
       have HCS : Hid (ForkC w10 w9.heap.size cs (some (kC, kX))) := Lib.hid hcs
       have HE10 : Hid (Ex w9.heap.size none w9 w10) := Lib.hid hex
       have hst := run_rowStore (P := Try.prog) (w10.alloc (.cells #[.int .i64 0, .int .i64 0, .string ⟨#[]⟩, .int .i64 0, .int .i64 0, .int .i64 0, .int .i64 0, .int .i64 0, .slice none 0 0, .slice none 0 0, .string ⟨#[]⟩, .int .i64 0, .string ⟨#[]⟩, .int .i64 0, .int .i64 0, .string ⟨#[]⟩, .int .i64 0, .int .i64 0, .int .i64 0, .int .i64 0, .int .i64 0, .slice none 0 0, .slice none 0 0, .string ⟨#[]⟩, .int .i64 0, .string ⟨#[]⟩] 42)) w10.heap.size 42 42 #[.int .i64 0, .int .i64 0, .string ⟨#[]⟩, .int .i64 0, .int .i64 0, .int .i64 0, .int .i64 0, .int .i64 0, .slice none 0 0, .slice none 0 0, .string ⟨#[]⟩, .int .i64 0, .string ⟨#[]⟩, .int .i64 0, .int .i64 0, .string ⟨#[]⟩, .int .i64 0, .int .i64 0, .int .i64 0, .int .i64 0, .int .i64 0, .slice none 0 0, .slice none 0 0, .string ⟨#[]⟩, .int .i64 0, .string ⟨#[]⟩] cs (heap_alloc_new w10 _) (by rw [HCS.out.size]; exact Try.sizeFork) (by rw [HCS.out.size]; rfl) HCS.out.one
       obtain ⟨w11, hw11⟩ : ∃ w11 : World, w11 = (w10.alloc (.cells #[.int .i64 0, .int .i64 0, .string ⟨#[]⟩, .int .i64 0, .int .i64 0, .int .i64 0, .int .i64 0, .int .i64 0, .slice none 0 0, .slice none 0 0, .string ⟨#[]⟩, .int .i64 0, .string ⟨#[]⟩, .int .i64 0, .int .i64 0, .string ⟨#[]⟩, .int .i64 0, .int .i64 0, .int .i64 0, .int .i64 0, .int .i64 0, .slice none 0 0, .slice none 0 0, .string ⟨#[]⟩, .int .i64 0, .string ⟨#[]⟩] 42)).setRow w10.heap.size cs := ⟨_, rfl⟩
       rw [← hw11] at hst
       have HB11 : Hid (w11.heap[w10.heap.size]? = some (.cells cs 42 (0, 0))) := Lib.hid (by rw [hw11]; exact setRow_heap _ _ _ _ _ _ (heap_alloc_new w10 _))
       have HE11 : Hid (Ex w9.heap.size none w9 w11) := Lib.hid (by rw [hw11]; exact (hex.alloc hex.size _).setRow _ _ (.inr hex.size))
       have HC1 : Hid (cs[1]? = some (.int .i64 2)) := Lib.hid (by
         obtain ⟨_, _, _, _, _, _, _, _, _, _, _, _, h, _⟩ := HCS.out
         rw [h]; rfl)
       clear hls he hcs hex hw11)
    | fail)
  obtain ⟨g10, hg10⟩ : ∃ g10, g10 = w10.heap.size := ⟨_, rfl⟩
  rw [← hg10]
  have HQ11 : Hid (∀ w', Ex w11.heap.size none w11 w' → w'.cell? ⟨g10, 1, none⟩ = some (.int .i64 2) ∧ (rowLoad 33 ⟨gA, 0, none⟩).run Try.prog w' = .ok (stV uA) w' ∧ (rowLoad 33 ⟨gB, 0, none⟩).run Try.prog w' = .ok (stV uB) w' ∧ w'.cell? ⟨gC, 12, none⟩ = some (.string kC.dig)) := Lib.hid (fun w' h => by
    have hq := HQC.out w' (HE9.out.thenW (HE11.out.thenW h))
    have hlt : w10.heap.size < w11.heap.size := (Array.getElem?_eq_some_iff.1 HB11.out).1
    refine ⟨?_, hq.1, hq.2.1, hq.2.2.2⟩
    rw [hg10, cell_of_row _ _ _ _ _ _ ((h.block _ hlt (by simp)).trans HB11.out)]
    exact HC1.out)
  clear hst hg10
  obtain ⟨q1, rA, rB, cC⟩ := HQ11.out _ (Ex.refl _ _ w11)
  have HKS : Hid (kC.dig.size ≤ maxLen) := Lib.hid (by show (dgW dC).size ≤ _; rw [dgW_size _ rfl]; decide)
  go_upto_region 8 with (first
    | (go_at_call 13
       refine (branchP_any (P := fun _ => True) 3 _ [kX, kB, kA, kC] kC.dig w11 (HS9.out _ HE11.out) (by decide) (fun s hs => by have := HLL.out s hs; omega) HKS.out).mono ?_
       rintro e w12 ⟨ls, u, ub, hls, rfl, hbr, hex⟩
       rw [four_links hls] at hbr
       have HU : Hid (∃ ro rc, u = .slice ro 3 rc ∧ ub = .bool true) := Lib.hid (by
         rcases hbr with ⟨h, _⟩ | ⟨r, ro, rc, n, h, hn, hu, hub, _⟩
         · rw [four_branch] at h; cases h
         · rw [four_branch] at h; cases h; subst hn; exact ⟨ro, rc, hu, hub⟩)
       obtain ⟨ro, rc, hu, hub⟩ := HU.out
       subst hu hub
       have HE12 : Hid (Ex w11.heap.size none w11 w12) := Lib.hid hex
       clear hls hbr hex q1 rA rB cC)
    | fail)
  obtain ⟨q1, rA, rB, cC⟩ := HQ11.out _ HE12.out
  go_wp2_with (first
    | (go_at_call 11
       refine (countedP_any (P := fun _ => True) 3 _ [kX, kB, kA, kC] w12 (HS9.out _ (HE11.out.thenW HE12.out)) (by decide) (fun s hs => by have := HLL.out s hs; omega)).mono ?_
       rintro e w13 ⟨ls, ro2, n2, rc2, hls, rfl, hn2, _, hex⟩
       rw [four_links hls, four_count] at hn2
       subst hn2
       have HE13 : Hid (Ex w11.heap.size none w11 w13) := Lib.hid (HE12.out.thenW hex)
       clear hls hex q1 rA rB cC
       obtain ⟨q1, rA, rB, cC⟩ := HQ11.out _ HE13.out)
    | (go_at_call 14
       refine (followsP_v (P := fun _ => True) uA uB w13 (HA.out.2 _ _) (by rw [HA.out.1]; exact tameK (.inl rfl)) (by rw [HA.out.1, shaKA]; rfl) (by rw [HA.out.1]; decide) (by rw [HB.out.1]; decide) (by rw [HA.out.1, HB.out.1]; exact fAB)).mono ?_
       rintro e w14 ⟨rfl, hex⟩
       have HE14 : Hid (Ex w11.heap.size none w11 w14) := Lib.hid (HE13.out.thenW hex)
       clear hex q1 rA rB cC)
    | fail)
  go_ret
  exact ⟨rfl, HE2.out.trans (HE4.out.thenW (HE6.out.thenW (HE9.out.thenW (HE11.out.thenW HE14.out)))) HE2.out.size (by simp)⟩
end Go.Proofs.Ytaakacahblndcaa

namespace Go.Proofs.Ytaakacahblndcaa
open Go.RowKit Go.Sort
attribute [local go_sem ↓] rowLoad_stv rowStore_stv rowBuild_stv

theorem ends_start (v1 : Value) (L : List Int) (w : World) (hv1 : Ints w v1 L) (hL : L.length ≤ 1000000) :
    Calls Try.prog 6 #[v1] w fun e w' => ∃ p, e = .returned (.pointer (some ⟨p, 0, none⟩)) ∧ (DiceOK (p + 1) w' p ∧ w.heap.size ≤ p ∧ p + 1 ≤ w'.heap.size) ∧ Ex w.heap.size none w w' :=
  (madeRoll_any v1 L w hv1 hL).mono fun _e _w' ⟨p, h1, h2, h3, h4, h5⟩ => ⟨p, h1, ⟨⟨_, h2⟩, h3, h4⟩, h5⟩
/-- Where the loop stands: j statements made on the way to N, the next one's time t. -/
def GoodE (N j t : Nat) (l : List St) : Prop := (∃ m, N = m + 1 ∧ m < 4) ∧ ((j = 0 ∧ t = 50 ∧ l = []) ∨ (∃ t0 i, EndG N j t0 l ∧ i < 9 ∧ t = t0 + i))
/-- Of a statement of these chains. -/
def eArg (t ki a : Int) : St := ⟨0, 0, ⟨#[]⟩, t, ki, a, 0, 0, [], [], ⟨#[]⟩, 0, ⟨#[]⟩⟩
theorem eArg_bare (t ki a : Int) : Bare (eArg t ki a) := ⟨rfl, rfl⟩
theorem eArg_tame (t ki a : Int) : Tame (eArg t ki a) := bare_tame (eArg_bare _ _ _) (Nat.zero_le _) (Nat.zero_le _)
theorem ok_tame {a : Int} {l : List St} (h : NumL a l) : ∀ s ∈ l, Tame s := fun s hs => checkI_tame (okB_iff.1 (h.ok s hs)).2.1
theorem digOf {a : Int} {l : List St} (h : NumL a l) {q : St} (hq : l.getLast? = some q) : sha (stB q) = q.dig := by
  have h1 := (okB_iff.1 (h.ok q (List.mem_of_getLast? hq))).2.2
  unfold sealedB at h1
  simp only [Bool.and_eq_true, decide_eq_true_eq] at h1
  exact h1.2.symm
/-- The next one of such a chain. -/
def eNext (j t r : Nat) (l : List St) : St := eS j (match l.getLast? with | none => ⟨#[]⟩ | some q => q.dig) t 10 r
theorem nextQ_eq {a : Nat} {l : List St} (h : NumL 1 l) (t ki : Nat) : sealS (nextQ 1 l (eArg (t : Int) (ki : Int) (a : Int))) = eS l.length (match l.getLast? with | none => ⟨#[]⟩ | some q => q.dig) t ki a := by
  have e : nextQ 1 l (eArg (t : Int) (ki : Int) (a : Int)) = eU l.length (match l.getLast? with | none => ⟨#[]⟩ | some q => q.dig) t ki a := by
    unfold nextQ eU eArg
    cases hq : l.getLast? with
    | none => rfl
    | some q => simp only [digOf h hq]; rfl
  rw [e]; rfl
theorem GoodE.num {N j t : Nat} {l : List St} (h : GoodE N j t l) : NumL 1 l ∧ FolL l ∧ l.length = j := by
  rcases h.2 with ⟨rfl, _, rfl⟩ | ⟨t0, i, hg, _⟩
  · exact ⟨NumL.nil 1, FolL.nil, rfl⟩
  · exact ⟨hg.num, hg.fol, hg.len⟩
theorem GoodE.N4 {N j t : Nat} {l : List St} (h : GoodE N j t l) : N ≤ 4 := by obtain ⟨⟨m, hm, h4⟩, _⟩ := h; omega
theorem GoodE.step {N j t r : Nat} {l : List St} (h : GoodE N j t l) (hr : j + r = N) (h0 : 0 < r) : EndG N (j + 1) t (l ++ [eNext j t r l]) := by
  obtain ⟨⟨m, hm, h4⟩, hg⟩ := h
  rcases hg with ⟨rfl, rfl, rfl⟩ | ⟨t0, i, hg, hi, rfl⟩
  · obtain rfl : r = m + 1 := by omega
    subst hm
    exact (EndG.first (chk0_all h4) (by omega) : EndG (m + 1) 1 50 [eS 0 ⟨#[]⟩ 50 10 (m + 1)])
  · obtain ⟨q, hq, _⟩ := hg.last
    have h1 := hg.step (by omega) (by omega) hi hq
    unfold eNext
    rw [hq]
    rw [show N - j = r by omega] at h1
    exact h1
theorem GoodE.check {N j t r : Nat} {l : List St} (h : GoodE N j t l) (hr : j + r = N) (h0 : 0 < r) : checkI (eNext j t r l) = 0 := by
  have h1 := (h.step hr h0).num.ok (eNext j t r l) (by simp)
  exact (okB_iff.1 h1).2.1
theorem nextEnds {P : Nat → Prop} (ao : Option Addr) (cap N j t r : Nat) (l : List St) (w : World) (hx : SlAt stRep P w ao l) (hg : GoodE N j t l) (hb : ∀ s ∈ l, Bare s) (hr : j + r = N) (h0 : 0 < r) :
    Calls Try.prog 8 #[.int .i64 1, .slice ao j cap, .agg #[.int .i64 0, .int .i64 0, .string ⟨#[]⟩, .int .i64 (t : Int), .int .i64 10, .int .i64 (r : Int), .int .i64 0, .int .i64 0, .slice none 0 0, .slice none 0 0, .string ⟨#[]⟩, .int .i64 0, .string ⟨#[]⟩]] w fun e w' => NextOK (eNext j t r l) e ∧ Ex w.heap.size none w w' := by
  obtain ⟨hn, hf, hl⟩ := hg.num
  have e := nextQ_eq (a := r) hn t 10
  rw [hl] at e
  have e2 : sealS (nextQ 1 l (eArg (t : Int) 10 (r : Int))) = eNext j t r l := e
  have hc : checkI (sealS (nextQ 1 l (eArg (t : Int) 10 (r : Int)))) = 0 := by rw [e2]; exact hg.check hr h0
  have h4 := hg.N4
  cases hq : l.getLast? with
  | none =>
    have hl0 : l = [] := List.getLast?_eq_none_iff.1 hq
    have h := nextP_first (P := P) 1 ao 0 cap l (eArg (t : Int) 10 (r : Int)) w (by rw [hl0]; rfl) hx hb (eArg_bare _ _ _) (by omega) (ok_tame hn) (eArg_tame _ _ _) (num_take hn hf) hl0 hc
    rw [e2] at h
    obtain rfl : j = 0 := by rw [← hl, hl0]; rfl
    exact h
  | some q =>
    rcases hg.2 with ⟨_, _, rfl⟩ | ⟨t0, i, hE, hi, rfl⟩
    · cases hq
    · obtain ⟨q', hq', hqt, hqk, _⟩ := hE.last
      rw [hq] at hq'
      cases hq'
      have h := nextP_more (P := P) 1 ao j cap l (eArg ((t0 + i : Nat) : Int) 10 (r : Int)) q w hl hx hb (eArg_bare _ _ _) (by omega) (ok_tame hn) (eArg_tame _ _ _) (num_take hn hf) hq (by rw [hqt]; show (t0 : Int) ≤ ((t0 + i : Nat) : Int); omega) (by omega) hc
      rw [e2] at h
      exact h
/-- A time that falls. -/
theorem nextFall {P : Nat → Prop} (ao : Option Addr) (cap N t : Nat) (x : Int) (l : List St) (w : World) (hx : SlAt stRep P w ao l) (hg : EndG N N t l) (hN : N ≤ 4) (hb : ∀ s ∈ l, Bare s) (hlt : x < (t : Int)) :
    Calls Try.prog 8 #[.int .i64 1, .slice ao N cap, .agg #[.int .i64 0, .int .i64 0, .string ⟨#[]⟩, .int .i64 x, .int .i64 10, .int .i64 0, .int .i64 0, .int .i64 0, .slice none 0 0, .slice none 0 0, .string ⟨#[]⟩, .int .i64 0, .string ⟨#[]⟩]] w fun e w' => NextE 9 e ∧ Ex w.heap.size none w w' := by
  obtain ⟨q, hq, hqt, hqk, _⟩ := hg.last
  exact nextP_time (P := P) 1 ao N cap l (eArg x 10 0) q w hg.len hx hb (eArg_bare _ _ _) (by omega) (ok_tame hg.num) (eArg_tame _ _ _) (num_take hg.num hg.fol) hq (by rw [hqt]; exact hlt)
/-- The resignation. -/
def goneS (N t : Nat) (l : List St) : St := eS N (match l.getLast? with | none => ⟨#[]⟩ | some q => q.dig) t 3 0
theorem goneS_eq {N t : Nat} {l : List St} {q : St} (hq : l.getLast? = some q) : goneS N t l = eS N q.dig t 3 0 := by unfold goneS; rw [hq]
theorem nextGone {P : Nat → Prop} (ao : Option Addr) (cap N t : Nat) (l : List St) (w : World) (hx : SlAt stRep P w ao l) (hg : EndG N N t l) (hN : N ≤ 4) (hb : ∀ s ∈ l, Bare s) :
    Calls Try.prog 8 #[.int .i64 1, .slice ao N cap, .agg #[.int .i64 0, .int .i64 0, .string ⟨#[]⟩, .int .i64 (t : Int), .int .i64 3, .int .i64 0, .int .i64 0, .int .i64 0, .slice none 0 0, .slice none 0 0, .string ⟨#[]⟩, .int .i64 0, .string ⟨#[]⟩]] w fun e w' => NextOK (goneS N t l) e ∧ Ex w.heap.size none w w' := by
  obtain ⟨q, hq, hqt, hqk, _⟩ := hg.last
  have e := nextQ_eq (a := 0) hg.num t 3
  rw [hg.len] at e
  have e2 : sealS (nextQ 1 l (eArg (t : Int) 3 0)) = goneS N t l := e
  have h := nextP_more (P := P) 1 ao N cap l (eArg (t : Int) 3 0) q w hg.len hx hb (eArg_bare _ _ _) (by omega) (ok_tame hg.num) (eArg_tame _ _ _) (num_take hg.num hg.fol) hq (by rw [hqt]; exact Int.le_refl _) (by omega) (by rw [e2, goneS_eq hq]; exact (hg.gone (by omega) hq).1)
  rw [e2] at h
  exact h
/-- Behind the resignation. -/
theorem nextBehind {P : Nat → Prop} (ao : Option Addr) (cap N t : Nat) (l : List St) (w : World) (hx : SlAt stRep P w ao (l ++ [goneS N t l])) (hg : EndG N N t l) (hN : N ≤ 4) (hb : ∀ s ∈ l, Bare s) :
    Calls Try.prog 8 #[.int .i64 1, .slice ao (N + 1) cap, .agg #[.int .i64 0, .int .i64 0, .string ⟨#[]⟩, .int .i64 900, .int .i64 10, .int .i64 0, .int .i64 0, .int .i64 0, .slice none 0 0, .slice none 0 0, .string ⟨#[]⟩, .int .i64 0, .string ⟨#[]⟩]] w fun e w' => NextE 5 e ∧ Ex w.heap.size none w w' := by
  obtain ⟨q, hq, hqt, hqk, _⟩ := hg.last
  obtain ⟨h1, h2⟩ := hg.withGone (by omega) hq
  rw [← goneS_eq hq] at h1 h2
  have hT := hg.time
  exact nextP_kind (P := P) 1 ao (N + 1) cap (l ++ [goneS N t l]) (eArg 900 10 0) (goneS N t l) w (by rw [List.length_append, hg.len]; rfl) hx (fun s hs => by
    rcases List.mem_append.1 hs with hs | hs
    · exact hb s hs
    · rw [List.mem_singleton.1 hs]; exact ⟨rfl, rfl⟩) (eArg_bare _ _ _) (by omega) (ok_tame h1) (eArg_tame _ _ _) (num_take h1 h2) List.getLast?_concat (by show ((t : Nat) : Int) ≤ 900; omega) rfl
/-- What ref03.Seal answers. -/
def SealE (y : St) (e : Ending) : Prop := ∃ u : St × Sv × Sv, e = .returned (stV u) ∧ u.1 = y ∧ ∀ Q W, Lies Q W u
theorem sealE_any (s : St) (hs : Bare s) (ht : Tame s) (w : World) :
    Calls Try.prog 10 #[stV (s, ⟨none, 0, 0⟩, ⟨none, 0, 0⟩)] w fun e w' => SealE (sealS s) e ∧ Ex w.heap.size none w w' := by
  refine (seal03_any (P := fun _ => True) s none none 0 0 0 0 w (hs.lies _ _ _ _ _ _) ht).mono ?_
  rintro e w' ⟨la, na, ca, pa, np, cp, rfl, hl, hex⟩
  have h1 := lies_len hl
  obtain ⟨hb1, hb2⟩ : (sealS s).list = [] ∧ (sealS s).pins = [] := hs
  simp only [hb1, hb2, List.length_nil] at h1
  obtain ⟨rfl, rfl⟩ := h1
  exact ⟨⟨(sealS s, ⟨la, 0, ca⟩, ⟨pa, 0, cp⟩), rfl, rfl, fun Q W => Bare.lies (s := sealS s) ⟨hb1, hb2⟩ _ _ _ _ Q W⟩, hex⟩
theorem sealLate (N t : Nat) (d : ByteArray) (hd : d.size = 32) (h1 : 1 ≤ t) (w : World) :
    Calls Try.prog 10 #[.agg #[.int .i64 1, .int .i64 (N : Int), .string d, .int .i64 ((t : Int) - 1), .int .i64 10, .int .i64 0, .int .i64 0, .int .i64 0, .slice none 0 0, .slice none 0 0, .string ⟨#[]⟩, .int .i64 0, .string ⟨#[]⟩]] w fun e w' => SealE (eS N d (t - 1) 10 0) e ∧ Ex w.heap.size none w w' := by
  have h := sealE_any (eU N d (t - 1) 10 0) ⟨rfl, rfl⟩ (bare_tame ⟨rfl, rfl⟩ (by show d.size ≤ _; omega) (Nat.zero_le _)) w
  have e : ((t - 1 : Nat) : Int) = (t : Int) - 1 := by omega
  unfold eS
  simp only [stV, stE, Sv.v, eU, e] at h ⊢
  exact h
theorem sealAfter (N : Nat) (d : ByteArray) (hd : d.size = 32) (w : World) :
    Calls Try.prog 10 #[.agg #[.int .i64 1, .int .i64 ((N : Int) + 1), .string d, .int .i64 900, .int .i64 10, .int .i64 0, .int .i64 0, .int .i64 0, .slice none 0 0, .slice none 0 0, .string ⟨#[]⟩, .int .i64 0, .string ⟨#[]⟩]] w fun e w' => SealE (eS (N + 1) d 900 10 0) e ∧ Ex w.heap.size none w w' :=
  sealE_any (eU (N + 1) d 900 10 0) ⟨rfl, rfl⟩ (bare_tame ⟨rfl, rfl⟩ (by show d.size ≤ _; omega) (Nat.zero_le _)) w
/-- What counts of a row, as a number. -/
theorem countedNum {P : Nat → Prop} (ao : Option Addr) (n cap m : Nat) (l : List St) (w : World) (hx : SlAt stRep P w ao l) (hn : l.length = n) (hm : n ≤ 1000) (hb : ∀ s ∈ l, Bare s) (hc : ∀ ls, LinksR 1 l ls → countN ls = m) :
    Calls Try.prog 11 #[.int .i64 1, .slice ao n cap] w fun e w' => ∃ (ro : Option Addr) (rc : Nat), e = .returned (.slice ro m rc) ∧ Ex w.heap.size none w w' := by
  refine (countedP_any (P := P) 1 (.slice ao n cap) l w ⟨ao, cap, by rw [hn], hx⟩ (by omega) (fun s hs => by rw [(hb s hs).1, (hb s hs).2]; exact ⟨Nat.zero_le _, Nat.zero_le _⟩)).mono ?_
  rintro e w' ⟨ls, ro, n', rc, hls, rfl, hn', _, hex⟩
  rw [hc ls hls] at hn'
  subst hn'
  exact ⟨ro, rc, rfl, hex⟩
theorem src_lit {w : World} {g : Nat} {xs : List (St × Sv × Sv)} {t : TypeId} {fr : Nat × Nat} (h : w.heap[g]? = some (.cells (flatL stE xs).toArray t fr)) : Src w (some ⟨g, 0, none⟩) xs :=
  .inr ⟨_, rfl, fun j v hv => by rw [Addr.add_lit, Nat.zero_add, cell_of_row _ _ _ _ _ _ h, List.getElem?_toArray]; exact hv⟩
theorem ends_parts {P : Nat → Prop} {w : World} {ao : Option Addr} {ms : List St} (h : SlAt stRep P w ao ms) : ∃ xs : List (St × Sv × Sv), xs.map (·.1) = ms ∧ Src w ao xs ∧ ∀ x ∈ xs, Lies P w x := by
  rcases Nat.eq_zero_or_pos ms.length with h0 | h0
  · have : ms = [] := List.eq_nil_of_length_eq_zero h0
    subst this
    exact ⟨[], rfl, .inl rfl, fun x hx => by cases hx⟩
  · obtain ⟨b, off, _, e, _⟩ := h 0 h0
    subst e
    have key : ∀ n, n ≤ ms.length → ∃ xs : List (St × Sv × Sv), xs.map (·.1) = ms.take n ∧ (flatL stE xs).length = n * 13 ∧ (∀ (j : Nat) (v : Value), (flatL stE xs)[j]? = some v → w.cell? ⟨b, off + j, none⟩ = some v) ∧ ∀ x ∈ xs, Lies P w x := by
      intro n
      induction n with
      | zero => intro _; exact ⟨[], rfl, rfl, fun j v hj => by simp [flatL] at hj, fun x hx => by cases hx⟩
      | succ n ih =>
        intro hn
        obtain ⟨xs, h1, hl, h2, h3⟩ := ih (by omega)
        obtain ⟨b', off', cs, e, _, hr, hR⟩ := h n (by omega)
        cases e
        obtain ⟨l, p, hc, hl1, hl2⟩ := hR
        refine ⟨xs ++ [(ms[n], l, p)], ?_, ?_, ?_, ?_⟩
        · rw [List.map_append, h1, List.take_add_one, List.getElem?_eq_getElem (by omega)]; rfl
        · rw [show flatL stE (xs ++ [(ms[n], l, p)]) = flatL stE xs ++ stE (ms[n], l, p) from by simp [flatL], List.length_append, hl, stE_len]; omega
        · intro j v hj
          rw [show flatL stE (xs ++ [(ms[n], l, p)]) = flatL stE xs ++ stE (ms[n], l, p) from by simp [flatL]] at hj
          by_cases hjn : j < n * 13
          · rw [List.getElem?_append_left (by omega)] at hj
            exact h2 j v hj
          · rw [List.getElem?_append_right (by omega), hl] at hj
            have := hr (j - n * 13) v (by rw [hc]; exact hj)
            rw [show off + j = off + n * stRep.k + (j - n * 13) from by show off + j = off + n * 13 + (j - n * 13); omega]
            exact this
        · intro x hx
          rcases List.mem_append.1 hx with hx | hx
          · exact h3 x hx
          · rw [List.mem_singleton.1 hx]; exact ⟨hl1, hl2⟩
    obtain ⟨xs, h1, _, h2, h3⟩ := key ms.length (Nat.le_refl _)
    rw [List.take_length] at h1
    exact ⟨xs, h1, .inr ⟨_, rfl, fun j v hj => by rw [Addr.add_lit]; exact h2 j v hj⟩, h3⟩
theorem heapN {w : World} {cs : Array Value} {t : TypeId} {g : Nat} (h : g = w.heap.size) : (w.alloc (.cells cs t)).heap[g]? = some (.cells cs t (0, 0)) := by subst h; exact heap_alloc_new w _
theorem heapO {w : World} {o : Obj} {g : Nat} {x : Option Obj} (h : g < w.heap.size) (k : w.heap[g]? = x) : (w.alloc o).heap[g]? = x := ((Ex.new w o).block g h (by simp)).trans k
theorem step_appW {P : Program} {w : World} {ops : Array Oper} {o : Oper} {a : Act} {K : Act → World → Prop} {Q : Exit → Act → World → Prop} {E : Prop} (hw : Region.wanted o (yielded ops a.tmps) = true) (s u : Operand) (t : TypeId)
    (ho : o.op = .call { callee := .builtin .append, args := #[s, u], argTypes := #[t, t] }) (ht : P.underlying t = some (.slice 33))
    (hinfo : (P.info? 33).map (fun i => (i.zero, i.size, i.bytes)) = some (some (.agg #[.int .i64 0, .int .i64 0, .string ⟨#[]⟩, .int .i64 0, .int .i64 0, .int .i64 0, .int .i64 0, .int .i64 0, .slice none 0 0, .slice none 0 0, .string ⟨#[]⟩, .int .i64 0, .string ⟨#[]⟩]), 13, 160))
    (rb base : Nat) (ao : Option Addr) (cap n : Nat) (l : List St) (hn : l.length = n) (hs : a.eval s = .slice ao n cap) (so : Option Addr) (m sc : Nat) (hu : a.eval u = .slice so m sc) (ys : List (St × Sv × Sv)) (hm : ys.length = m)
    (hown : OwnT w rb base ao cap l) (hsrc : Src w so ys) (hx : ∀ x ∈ ys, Lies (fun b => base ≤ b ∧ rowOf ao ≠ some b) w x) (hlen : n + m ≤ 10000000) (hbase : rb ≤ w.heap.size) (r : Nat) (hr : n + m = r)
    (h : ∀ ao' cap' w', OwnT w' rb base ao' cap' (l ++ ys.map (·.1)) → Ex rb none w w' → (∀ b, b < w.heap.size → rowOf ao ≠ some b → w'.heap[b]? = w.heap[b]?) → (rowOf ao' = rowOf ao ∨ rowOf ao' = some w.heap.size) → K (a.put o.dst (.slice ao' r cap')) w') :
    if Region.wanted o (yielded ops a.tmps) = true then o.wp P a w K Q else E := by
  rw [if_pos hw]
  exact wp_appT s u t ho ht hinfo rb base ao cap n l hn hs so m sc hu ys hm hown hsrc hx hlen hbase r hr h
theorem rowNe {ao : Option Addr} {n b : Nat} (h : rowOf ao = rowOf none ∨ rowOf ao = some n) (hb : b ≠ n) : rowOf ao ≠ some b := by
  rcases h with h | h
  · rw [h]; simp [rowOf]
  · rw [h]; intro e; exact hb (Option.some.inj e).symm
theorem heapD {w : World} {g : Nat} {x : Option Obj} (k : w.heap[g]? = x) : w.drew.heap[g]? = x := k
theorem heapK {w : World} {o : Obj} {g : Nat} {x : Obj} (k : w.heap[g]? = some x) : (w.alloc o).heap[g]? = some x := heapO (Array.getElem?_eq_some_iff.1 k).1 k
theorem heap2 (w : World) (o : Obj) (cs : Array Value) (t : TypeId) : ((w.alloc o).alloc (.cells cs t)).heap[w.heap.size + 1]? = some (.cells cs t (0, 0)) := heapN (by simp)
theorem Ex.at' {B b : Nat} {w w' : World} {x : Obj} (h : Ex B none w w') (hB : w.heap.size ≤ B) (k : w.heap[b]? = some x) : w'.heap[b]? = some x := (h.block b (Nat.lt_of_lt_of_le (Array.getElem?_eq_some_iff.1 k).1 hB) (by simp)).trans k
/-- What an append from nothing leaves of a block; the new row is another one. -/
theorem boxKept {w w' : World} {ao : Option Addr} {b : Nat} {x : Obj} (hk : ∀ b, b < w.heap.size → rowOf none ≠ some b → w'.heap[b]? = w.heap[b]?) (hr : rowOf ao = rowOf none ∨ rowOf ao = some w.heap.size) (k : w.heap[b]? = some x) : w'.heap[b]? = some x ∧ rowOf ao ≠ some b := by
  have hlt := (Array.getElem?_eq_some_iff.1 k).1
  exact ⟨(hk b hlt (by simp [rowOf])).trans k, rowNe hr (by omega)⟩
theorem kAt {w w' : World} {ao : Option Addr} {b : Nat} {x : Obj} (hk : ∀ b, b < w.heap.size → rowOf ao ≠ some b → w'.heap[b]? = w.heap[b]?) (hne : rowOf ao ≠ some b) (k : w.heap[b]? = some x) : w'.heap[b]? = some x := (hk b (Array.getElem?_eq_some_iff.1 k).1 hne).trans k
theorem rowFar {w : World} {rb base : Nat} {ao : Option Addr} {cap : Nat} {l : List St} (h : OwnT w rb base ao cap l) {b : Nat} (hb : w.heap.size ≤ b) : rowOf ao ≠ some b := fun e => by have := h.row b e; omega
theorem Ex.thenB {a b c : World} {B : Nat} (h : Ex B none a b) (k : Ex B none b c) : Ex B none a c := h.trans k (Nat.le_refl _) (by simp)
theorem Ex.allocW {a w : World} (h : Ex a.heap.size none a w) (o : Obj) : Ex a.heap.size none a (w.alloc o) := h.alloc h.size o
end Go.Proofs.Ytaakacahblndcaa

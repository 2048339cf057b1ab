/- ref09.Order: a contract, no statement of the seat. -/
import Derived.Test.YtdmchekkcmjafaaMg08
import Derived.Test.YtdmchekkcmjafaaOrderPlainG
import Derived.Test.YtdmchekkcmjafaaOnlyG
import Derived.Deep.RegionHeld3
import Derived.IntWalk
namespace Go.Proofs.Ytdmchekkcmjafaa
open Go.RowKit Go.Sort

theorem LightL.order {m : Nat} {l : List St} (h : LightL m l) : LightL m (orderI beforeB l) := fun s hs => h s (orderI_mem.1 hs)
theorem OwnS.at' {w : World} {base : Nat} {ao : Option Addr} {cap : Nat} {l : List St} (h : OwnS w base ao cap l) : SlAt stRep (fun b => base ≤ b) w ao l := by
  obtain ⟨ao', cap', e, h'⟩ := h.sl
  cases e
  exact h'
theorem ins_row {xs : List (St × Sv × Sv)} {acc : List St} {s : St} {j : Nat} (hx : xs.map (·.1) = acc) (hp : posI beforeB acc s acc.length = j) : (xs.take j).map (·.1) ++ [s] ++ (xs.drop j).map (·.1) = insI beforeB acc s := by
  unfold insI
  rw [hp, ← hx, ← List.map_take, ← List.map_drop]
  simp
theorem LightL.take {m : Nat} {l : List St} (h : LightL m l) (k : Nat) : LightL m (l.take k) := fun s hs => h s (List.mem_of_mem_take hs)

set_option maxHeartbeats 4000000 in
set_option maxRecDepth 100000 in
theorem refOrder_any {P : Nat → Prop} (v : Value) (l : List St) (w : World) (hv : Sl stRep P w v l) (hm : l.length ≤ 100000) (hl : LightL 1000000 l) :
    Calls Try.prog 16 #[v] w fun e w' => ∃ ro rc, e = .returned (.slice ro l.length rc) ∧ OwnS w' w.heap.size ro rc (orderI beforeB l) ∧ Ex w.heap.size none w w' := by
  obtain ⟨ao, cap, rfl, hx⟩ := hv
  have HL := Lib.hid hl
  clear hl
  go_enter Try.func16, Try.ntmps16
  go_wp2
  go_loopw [3, 4] (fun v i wr => ∃ (k : Nat) (ro : Option Addr) (rc : Nat), k ≤ l.length ∧ i = .int .i64 k ∧ v = .slice ro k rc ∧ OwnS wr w.heap.size ro rc (orderI beforeB (l.take k)) ∧ Ex w.heap.size none w wr) (fun _ i _ => l.length - (intOf i).toNat)
  case atStart => exact ⟨0, none, 0, by omega, rfl, rfl, by simpa [orderI] using OwnS.nil _ _, Ex.refl _ _ _⟩
  case round =>
    obtain ⟨k, ro, rc, hk, rfl, rfl, hown, hex⟩ := hrel
    have hsz := hex.size
    by_cases hlt : k < l.length
    · have fx := hx.keep (by decide) (fun b _ hb => hex.block b hb (by simp))
      obtain ⟨b, off, s, ⟨lo, ln, lc⟩, ⟨po, pn, pc⟩, rfl, _, hls, hr, HX⟩ := st_get fx k hlt
      have hm1 := HL.out.get HX.out
      obtain ⟨acc, hacc⟩ : ∃ acc, acc = orderI beforeB (l.take k) := ⟨_, rfl⟩
      have hal : acc.length = k := by rw [hacc, orderI_len]; simp; omega
      have HK : Hid (orderI beforeB (l.take (k + 1)) = insI beforeB acc s) := by rw [hacc]; exact orderI_snoc HX.out
      rw [← hacc] at hown
      clear hacc
      have HLS := Lib.hid hls
      have HO := Lib.hid hown
      have HAL := Lib.hid hal
      have HR := Lib.hid hr
      have hbl := rangeAt_lt hr (by rw [stE_len]; omega)
      clear fx hr hls hown hal
      obtain ⟨w1, hw1⟩ : ∃ w1, w1 = wr := ⟨_, rfl⟩
      subst hw1
      go_wp2
      go_loopw [5] (fun u wi => ∃ (j : Nat), j ≤ k ∧ u = .int .i64 j ∧ Hid (posI beforeB acc s k = posI beforeB acc s j) ∧ Ex w1.heap.size none w1 wi) (fun u _ => (intOf u).toNat)
      case atStart => exact ⟨k, by omega, rfl, (show _ = _ from rfl), Ex.refl _ _ _⟩
      case round =>
        obtain ⟨j, hj, rfl, HP, hexi⟩ := hrel
        have hszi := hexi.size
        have HEI := Lib.hid hexi
        have hq4 := fun p0 : ExW wr => ExW.st_at (rangeAt_keep HR.out (hexi.block b hbl (by simp))) p0
        simp only [Sv.v] at hq4
        by_cases h0 : 0 < j
        · obtain ⟨i, hi⟩ : ∃ i, i = j - 1 := ⟨_, rfl⟩
          have hij : i + 1 = j := by omega
          have HIJ := Lib.hid hij
          obtain ⟨g, og, t, ⟨lo', ln', lc'⟩, ⟨po', pn', pc'⟩, hro, hgb, _, hrt, HT⟩ := st_get (HO.out.keep hexi (Nat.le_refl _)).at' i (by rw [HAL.out]; omega)
          have hgl := rangeAt_lt hrt (by rw [stE_len]; omega)
          have hik : (i : Int) < (k : Int) := by omega
          have hj0 : (0 : Int) < (j : Int) := by omega
          have hw1 : IntKind.i64.wrap ((j : Int) - 1) = i := by rw [show (j : Int) - 1 = i by omega]; exact IntWalk.i64_in _ (by omega)
          have hcmp := fun p0 : ExW wr => before_any (s, ⟨lo, ln, lc⟩, ⟨po, pn, pc⟩) (t, ⟨lo', ln', lc'⟩, ⟨po', pn', pc'⟩) p0.w'
          simp only [stE, Sv.v] at hcmp
          have hq3 := fun p0 : ExW wr => ExW.st_at hrt p0
          simp only [Sv.v] at hq3
          have HC := Lib.hid hcmp
          clear hcmp hi hij hexi
          subst hro
          cases hb : beforeB s t with
          | true =>
            rw [hb] at HC
            go_wp2_with fail
            refine wp_region_quiet_ex (by kernel_rfl) (by kernel_rfl) ?_
            repeat (go_big_quiet_step ((go_at_call 35; refine calls_ex_of (HC.out _))))
            refine wpQuiet_nil ?_
            intro _ hw'
            obtain ⟨p9, hw''⟩ := hw'
            subst hw''
            clear hq3 hq4 HC hw1
            go_wp2
            go_roundw
            case rel =>
              have hij := HIJ.out
              exact ⟨i, by omega, congrArg (Value.int .i64) (by omega), HP.out.trans (by rw [← hij]; exact posI_go HT.out hb), HEI.out.trans p9.ex hszi (by simp)⟩
            case measure => have hij := HIJ.out; simp [intOf] <;> omega
          | false =>
            rw [hb] at HC
            have HPJ : Hid (posI beforeB acc s k = j) := HP.out.trans (by rw [← HIJ.out]; exact posI_stop HT.out hb)
            go_wp2_with fail
            refine wp_region_quiet_ex (by kernel_rfl) (by kernel_rfl) ?_
            repeat (go_big_quiet_step ((go_at_call 35; refine calls_ex_of (HC.out _))))
            refine wpQuiet_nil ?_
            intro _ hw'
            obtain ⟨p9, hw''⟩ := hw'
            subst hw''
            clear hw1
            have hro : (some ⟨g, og, none⟩ : Option Addr) = some ⟨g, og, none⟩ ∨ True := .inr trivial
            generalize (some ⟨g, og, none⟩ : Option Addr) = ro at *
            have HE2 : Hid (Ex w1.heap.size none w1 p9.w') := HEI.out.trans p9.ex hszi (by simp)
            generalize p9.w' = w2 at HE2
            clear hq3 hq4 HC
            go_wp2_with fail

            obtain ⟨xs, a2, hxs, hlies, hs1, ha2, hs2, hra, hrl⟩ := (HO.out.keep HE2.out (Nat.le_refl _)).t.parts j (by rw [HAL.out]; exact hj)
            have HSS : Hid (xs.map (·.1) = acc ∧ (∀ x ∈ xs, Lies (fun b => w.heap.size ≤ b ∧ rowOf ro ≠ some b) w2 x) ∧ Src w2 ro (xs.take j) ∧ Src w2 a2 (xs.drop j) ∧ rowOf a2 = rowOf ro ∧ ∀ b, rowOf ro = some b → b < w2.heap.size) := ⟨hxs, hlies, hs1, hs2, hra, hrl⟩
            have HXL : Hid (xs.length = k) := (show xs.length = k by rw [← HAL.out, ← hxs]; simp)
            have HTL : Hid ((xs.take j).length = j) := (show _ = _ by rw [List.length_take, HXL.out]; omega)
            have HDL : Hid ((xs.drop j).length = k - j) := (show _ = _ by rw [List.length_drop, HXL.out])
            have hkc : k ≤ rc := by have := HO.out.t.len; rw [HAL.out] at this; exact this
            clear hxs hlies hs1 hs2 hra hrl
            have hq5 := fun p0 : ExW w2 => ExW.st_at (rangeAt_keep HR.out (HE2.out.block b hbl (by simp))) p0
            simp only [Sv.v] at hq5
            have HQ := Lib.hid hq5
            clear hq5
            have hsz2 := HE2.out.size
            have g1 : (0 : Int) ≤ (j : Int) := by omega
            have g2 : (j : Int) ≤ (k : Int) := by omega
            have g3 : (k : Int) ≤ (rc : Int) := by omega
            have g4 : (j : Int) ≤ (rc : Int) := by omega
            go_region_held3 (fun w' => w'.cell? ⟨b, off + k * 13, none⟩ = some (.int .i64 s.author) ∧ w'.cell? ⟨b, off + k * 13 + 1, none⟩ = some (.int .i64 s.number) ∧ w'.cell? ⟨b, off + k * 13 + 2, none⟩ = some (.string s.prev) ∧ w'.cell? ⟨b, off + k * 13 + 3, none⟩ = some (.int .i64 s.time) ∧ w'.cell? ⟨b, off + k * 13 + 4, none⟩ = some (.int .i64 s.kind) ∧ w'.cell? ⟨b, off + k * 13 + 5, none⟩ = some (.int .i64 s.a) ∧ w'.cell? ⟨b, off + k * 13 + 6, none⟩ = some (.int .i64 s.b) ∧ w'.cell? ⟨b, off + k * 13 + 7, none⟩ = some (.int .i64 s.c) ∧ w'.cell? ⟨b, off + k * 13 + 8, none⟩ = some (.slice lo ln lc) ∧ w'.cell? ⟨b, off + k * 13 + 9, none⟩ = some (.slice po pn pc) ∧ w'.cell? ⟨b, off + k * 13 + 10, none⟩ = some (.string s.body) ∧ w'.cell? ⟨b, off + k * 13 + 11, none⟩ = some (.int .i64 s.key) ∧ w'.cell? ⟨b, off + k * 13 + 12, none⟩ = some (.string s.dig)) (first | exact HQ.out ⟨_, (Ex.refl _ _ w2).drew⟩ | exact HQ.out ⟨_, HA.out.2.1⟩ | exact HQ.out ⟨_, HA.out.2.1.trans HCC.out.2 hza (by simp)⟩ | exact HQ.out ⟨_, (HA.out.2.1.trans HCC.out.2 hza (by simp)).trans (Ex.new wc _) (by omega) (by simp)⟩ | exact HQ.out ⟨_, HB.out.2⟩ | exact HQ.out ⟨_, HD.out.2⟩)
              (first
                | (refine step_appT rfl (.const (.slice none 0 0)) (.tmp 32) _ (by rfl) Try.underlying22 Try.infoSt w2.heap.size w.heap.size none 0 0 [] rfl (by rfl) ro j rc (by rfl) (xs.take j) HTL.out (OwnT.nil _ _ _) (HSS.out.2.2.1.keep fun _ _ _ => rfl) (fun x hx => ((HSS.out.2.1 x (List.mem_of_mem_take hx)).keep fun _ _ _ => rfl).mono fun b h _ => ⟨h.1, by simp [rowOf]⟩) (by omega) (Nat.le_refl _) j (by omega) ?_
                   intro ao1 cap1 wa hoa hea hba hra
                   have HA : Hid (OwnT wa w2.heap.size w.heap.size ao1 cap1 ((xs.take j).map (·.1)) ∧ Ex w2.heap.size none w2 wa ∧ (∀ b, rowOf ao1 = some b → b < wa.heap.size)) := ⟨by simpa using hoa, (Ex.refl _ _ w2).drew.trans hea (Nat.le_refl _) (by simp), hoa.row⟩
                   have hza : w2.heap.size ≤ wa.heap.size := hea.size
                   clear hoa hea hba hra)
                | (go_at_call 28
                   refine (copy03_lit s lo po ln lc pn pc _ (HLS.out.keep fun b _ hb => (HA.out.2.1.block b (by omega) (by simp)).trans (HE2.out.block b hb (by simp))) (by omega)).mono ?_
                   rintro e wc ⟨la, na, ca, pa, np, cp, rfl, hlc, hexc⟩
                   have HCC : Hid (Lies (fun b => wa.heap.size ≤ b) wc (s, ⟨la, na, ca⟩, ⟨pa, np, cp⟩) ∧ Ex wa.heap.size none wa wc) := ⟨hlc, hexc⟩
                   have hzc : wa.heap.size ≤ wc.heap.size := hexc.size
                   clear hlc hexc)
                | (refine step_appT rfl (.tmp 33) (.tmp 39) _ (by rfl) Try.underlying22 Try.infoSt w2.heap.size w.heap.size ao1 cap1 j ((xs.take j).map (·.1)) (by rw [List.length_map, HTL.out]) (by rfl) (some ⟨wc.heap.size, 0, none⟩) 1 1 (by rfl) [(s, ⟨la, na, ca⟩, ⟨pa, np, cp⟩)] rfl (HA.out.1.keep ((HCC.out.2).trans (Ex.new wc _) hzc (by simp)) (Nat.le_refl _)) (lit_cells rfl) (fun x hx => by rw [List.mem_singleton.1 hx]; exact (HCC.out.1.keep fun b _ hb => (Ex.new wc _).block b hb (by simp)).mono fun b h _ => ⟨by omega, fun e => by have := HA.out.2.2 b e; omega⟩) (by omega) (by simp; omega) (j + 1) rfl ?_
                   intro ao2 cap2 wb hob heb hbb hrb
                   have HB : Hid (OwnT wb w2.heap.size w.heap.size ao2 cap2 ((xs.take j).map (·.1) ++ [s]) ∧ Ex w2.heap.size none w2 wb) := ⟨by simpa using hob, ((HA.out.2.1.trans HCC.out.2 hza (by simp)).trans (Ex.new wc _) (by omega) (by simp)).trans heb (Nat.le_refl _) (by simp)⟩
                   have hzb : w2.heap.size ≤ wb.heap.size := HB.out.2.size
                   clear hob heb hbb hrb)
                | (refine step_appT rfl (.tmp 40) (.tmp 43) _ (by rfl) Try.underlying22 Try.infoSt w2.heap.size w.heap.size ao2 cap2 (j + 1) ((xs.take j).map (·.1) ++ [s]) (by rw [List.length_append, List.length_map, HTL.out]; rfl) (by rfl) a2 (k - j) (rc - j) (by rfl) (xs.drop j) HDL.out HB.out.1 (HSS.out.2.2.2.1.keep fun b e hb => HB.out.2.block b hb (by simp)) (fun x hx => ((HSS.out.2.1 x (List.mem_of_mem_drop hx)).mono (P' := fun b => w.heap.size ≤ b ∧ b < w2.heap.size) fun b h hb => ⟨h.1, hb⟩).keep (fun b h _ => HB.out.2.block b h.2 (by simp)) |>.mono fun b h _ => ⟨h.1, fun e => by have := HB.out.1.row_ge b e; omega⟩) (by omega) (by omega) (k + 1) (by omega) ?_
                   intro ao3 cap3 wd hod hed hbd hrd
                   have HD : Hid (OwnT wd w2.heap.size w.heap.size ao3 cap3 ((xs.take j).map (·.1) ++ [s] ++ (xs.drop j).map (·.1)) ∧ Ex w2.heap.size none w2 wd) := ⟨hod, HB.out.2.trans hed (Nat.le_refl _) (by simp)⟩
                   clear hod hed hbd hrd) | fail)
            go_wp2
            go_roundw
            case rel =>
              exact ⟨k + 1, ao3, cap3, by omega, by go_num, rfl, by rw [HK.out, ← ins_row HSS.out.1 ((congrArg (posI beforeB acc s) HAL.out).trans HPJ.out)]; exact HD.out.1.s (by omega), (hex.trans HE2.out hsz (by simp)).trans HD.out.2 (by omega) (by simp)⟩
            case measure => simp [intOf] <;> omega
        · have hj0 : decide (0 < j) = false := decide_eq_false (by omega)
          have HPJ : Hid (posI beforeB acc s k = j) := HP.out.trans (by rw [show j = 0 by omega]; rfl)
          clear h0
          go_wp2_with fail
          refine wp_region_quiet_ex (by kernel_rfl) (by kernel_rfl) ?_
          repeat (go_big_quiet_step (fail))
          refine wpQuiet_nil ?_
          intro _ hw'
          obtain ⟨p9, hw''⟩ := hw'
          subst hw''
          have HE2 : Hid (Ex w1.heap.size none w1 p9.w') := HEI.out.trans p9.ex hszi (by simp)
          generalize p9.w' = w2 at HE2
          clear hq4
          go_wp2_with fail
          obtain ⟨xs, a2, hxs, hlies, hs1, ha2, hs2, hra, hrl⟩ := (HO.out.keep HE2.out (Nat.le_refl _)).t.parts j (by rw [HAL.out]; exact hj)
          have HSS : Hid (xs.map (·.1) = acc ∧ (∀ x ∈ xs, Lies (fun b => w.heap.size ≤ b ∧ rowOf ro ≠ some b) w2 x) ∧ Src w2 ro (xs.take j) ∧ Src w2 a2 (xs.drop j) ∧ rowOf a2 = rowOf ro ∧ ∀ b, rowOf ro = some b → b < w2.heap.size) := ⟨hxs, hlies, hs1, hs2, hra, hrl⟩
          have HXL : Hid (xs.length = k) := (show xs.length = k by rw [← HAL.out, ← hxs]; simp)
          have HTL : Hid ((xs.take j).length = j) := (show _ = _ by rw [List.length_take, HXL.out]; omega)
          have HDL : Hid ((xs.drop j).length = k - j) := (show _ = _ by rw [List.length_drop, HXL.out])
          have hkc : k ≤ rc := by have := HO.out.t.len; rw [HAL.out] at this; exact this
          clear hxs hlies hs1 hs2 hra hrl
          have hq5 := fun p0 : ExW w2 => ExW.st_at (rangeAt_keep HR.out (HE2.out.block b hbl (by simp))) p0
          simp only [Sv.v] at hq5
          have HQ := Lib.hid hq5
          clear hq5
          have hsz2 := HE2.out.size
          have g1 : (0 : Int) ≤ (j : Int) := by omega
          have g2 : (j : Int) ≤ (k : Int) := by omega
          have g3 : (k : Int) ≤ (rc : Int) := by omega
          have g4 : (j : Int) ≤ (rc : Int) := by omega
          go_region_held3 (fun w' => w'.cell? ⟨b, off + k * 13, none⟩ = some (.int .i64 s.author) ∧ w'.cell? ⟨b, off + k * 13 + 1, none⟩ = some (.int .i64 s.number) ∧ w'.cell? ⟨b, off + k * 13 + 2, none⟩ = some (.string s.prev) ∧ w'.cell? ⟨b, off + k * 13 + 3, none⟩ = some (.int .i64 s.time) ∧ w'.cell? ⟨b, off + k * 13 + 4, none⟩ = some (.int .i64 s.kind) ∧ w'.cell? ⟨b, off + k * 13 + 5, none⟩ = some (.int .i64 s.a) ∧ w'.cell? ⟨b, off + k * 13 + 6, none⟩ = some (.int .i64 s.b) ∧ w'.cell? ⟨b, off + k * 13 + 7, none⟩ = some (.int .i64 s.c) ∧ w'.cell? ⟨b, off + k * 13 + 8, none⟩ = some (.slice lo ln lc) ∧ w'.cell? ⟨b, off + k * 13 + 9, none⟩ = some (.slice po pn pc) ∧ w'.cell? ⟨b, off + k * 13 + 10, none⟩ = some (.string s.body) ∧ w'.cell? ⟨b, off + k * 13 + 11, none⟩ = some (.int .i64 s.key) ∧ w'.cell? ⟨b, off + k * 13 + 12, none⟩ = some (.string s.dig)) (first | exact HQ.out ⟨_, (Ex.refl _ _ w2).drew⟩ | exact HQ.out ⟨_, HA.out.2.1⟩ | exact HQ.out ⟨_, HA.out.2.1.trans HCC.out.2 hza (by simp)⟩ | exact HQ.out ⟨_, (HA.out.2.1.trans HCC.out.2 hza (by simp)).trans (Ex.new wc _) (by omega) (by simp)⟩ | exact HQ.out ⟨_, HB.out.2⟩ | exact HQ.out ⟨_, HD.out.2⟩)
            (first
              | (refine step_appT rfl (.const (.slice none 0 0)) (.tmp 32) _ (by rfl) Try.underlying22 Try.infoSt w2.heap.size w.heap.size none 0 0 [] rfl (by rfl) ro j rc (by rfl) (xs.take j) HTL.out (OwnT.nil _ _ _) (HSS.out.2.2.1.keep fun _ _ _ => rfl) (fun x hx => ((HSS.out.2.1 x (List.mem_of_mem_take hx)).keep fun _ _ _ => rfl).mono fun b h _ => ⟨h.1, by simp [rowOf]⟩) (by omega) (Nat.le_refl _) j (by omega) ?_
                 intro ao1 cap1 wa hoa hea hba hra
                 have HA : Hid (OwnT wa w2.heap.size w.heap.size ao1 cap1 ((xs.take j).map (·.1)) ∧ Ex w2.heap.size none w2 wa ∧ (∀ b, rowOf ao1 = some b → b < wa.heap.size)) := ⟨by simpa using hoa, (Ex.refl _ _ w2).drew.trans hea (Nat.le_refl _) (by simp), hoa.row⟩
                 have hza : w2.heap.size ≤ wa.heap.size := hea.size
                 clear hoa hea hba hra)
              | (go_at_call 28
                 refine (copy03_lit s lo po ln lc pn pc _ (HLS.out.keep fun b _ hb => (HA.out.2.1.block b (by omega) (by simp)).trans (HE2.out.block b hb (by simp))) (by omega)).mono ?_
                 rintro e wc ⟨la, na, ca, pa, np, cp, rfl, hlc, hexc⟩
                 have HCC : Hid (Lies (fun b => wa.heap.size ≤ b) wc (s, ⟨la, na, ca⟩, ⟨pa, np, cp⟩) ∧ Ex wa.heap.size none wa wc) := ⟨hlc, hexc⟩
                 have hzc : wa.heap.size ≤ wc.heap.size := hexc.size
                 clear hlc hexc)
              | (refine step_appT rfl (.tmp 33) (.tmp 39) _ (by rfl) Try.underlying22 Try.infoSt w2.heap.size w.heap.size ao1 cap1 j ((xs.take j).map (·.1)) (by rw [List.length_map, HTL.out]) (by rfl) (some ⟨wc.heap.size, 0, none⟩) 1 1 (by rfl) [(s, ⟨la, na, ca⟩, ⟨pa, np, cp⟩)] rfl (HA.out.1.keep ((HCC.out.2).trans (Ex.new wc _) hzc (by simp)) (Nat.le_refl _)) (lit_cells rfl) (fun x hx => by rw [List.mem_singleton.1 hx]; exact (HCC.out.1.keep fun b _ hb => (Ex.new wc _).block b hb (by simp)).mono fun b h _ => ⟨by omega, fun e => by have := HA.out.2.2 b e; omega⟩) (by omega) (by simp; omega) (j + 1) rfl ?_
                 intro ao2 cap2 wb hob heb hbb hrb
                 have HB : Hid (OwnT wb w2.heap.size w.heap.size ao2 cap2 ((xs.take j).map (·.1) ++ [s]) ∧ Ex w2.heap.size none w2 wb) := ⟨by simpa using hob, ((HA.out.2.1.trans HCC.out.2 hza (by simp)).trans (Ex.new wc _) (by omega) (by simp)).trans heb (Nat.le_refl _) (by simp)⟩
                 have hzb : w2.heap.size ≤ wb.heap.size := HB.out.2.size
                 clear hob heb hbb hrb)
              | (refine step_appT rfl (.tmp 40) (.tmp 43) _ (by rfl) Try.underlying22 Try.infoSt w2.heap.size w.heap.size ao2 cap2 (j + 1) ((xs.take j).map (·.1) ++ [s]) (by rw [List.length_append, List.length_map, HTL.out]; rfl) (by rfl) a2 (k - j) (rc - j) (by rfl) (xs.drop j) HDL.out HB.out.1 (HSS.out.2.2.2.1.keep fun b e hb => HB.out.2.block b hb (by simp)) (fun x hx => ((HSS.out.2.1 x (List.mem_of_mem_drop hx)).mono (P' := fun b => w.heap.size ≤ b ∧ b < w2.heap.size) fun b h hb => ⟨h.1, hb⟩).keep (fun b h _ => HB.out.2.block b h.2 (by simp)) |>.mono fun b h _ => ⟨h.1, fun e => by have := HB.out.1.row_ge b e; omega⟩) (by omega) (by omega) (k + 1) (by omega) ?_
                 intro ao3 cap3 wd hod hed hbd hrd
                 have HD : Hid (OwnT wd w2.heap.size w.heap.size ao3 cap3 ((xs.take j).map (·.1) ++ [s] ++ (xs.drop j).map (·.1)) ∧ Ex w2.heap.size none w2 wd) := ⟨hod, HB.out.2.trans hed (Nat.le_refl _) (by simp)⟩
                 clear hod hed hbd hrd) | fail)
          go_wp2
          go_roundw
          case rel =>
            exact ⟨k + 1, ao3, cap3, by omega, by go_num, rfl, by rw [HK.out, ← ins_row HSS.out.1 ((congrArg (posI beforeB acc s) HAL.out).trans HPJ.out)]; exact HD.out.1.s (by omega), (hex.trans HE2.out hsz (by simp)).trans HD.out.2 (by omega) (by simp)⟩
          case measure => simp [intOf] <;> omega
    · obtain rfl : k = l.length := by omega
      rw [List.take_length] at hown
      go_wp2
      go_ret
      exact ⟨ro, rc, rfl, hown, hex⟩
end Go.Proofs.Ytdmchekkcmjafaa

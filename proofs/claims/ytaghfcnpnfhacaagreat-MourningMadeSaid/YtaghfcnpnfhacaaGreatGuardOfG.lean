/- guardian.Of at whatever statement: a contract, no statement of the seat. -/
import Derived.Test.YtaghfcnpnfhacaaGreatMg08
import Derived.Test.YtaghfcnpnfhacaaGreatCheckPG
import Derived.Test.YtaghfcnpnfhacaaGreatChk03G
import Derived.Test.YtaghfcnpnfhacaaGreatMg09
import Derived.Test.YtaghfcnpnfhacaaGreatMg01
import Derived.Test.YtaghfcnpnfhacaaGreatMg06
import Derived.Test.YtaghfcnpnfhacaaGreatMg04
import Derived.Laws.ResultCell
import Derived.Great.BuildSlice
import Derived.Deep.RegionHeld3
import Derived.Deep.Cut
import Derived.Deep.CutRange
namespace Go.Proofs.YtaghfcnpnfhacaaGreat
open Go.RowKit Go.Sort

theorem Tryz.sizeG : (Tryz.prog.info? 113).map (·.size) = some 3 := by kernel_rfl
/-- What guardian.Of hands back. -/
structure OfG (s : St) (B : Nat) (w : World) (o n : Int) (ao : Option Addr) (an ac : Nat) (er : Int) : Prop where
  yes : guardB s = true → er = 0 ∧ o = s.author ∧ n = s.a ∧ Sl intRep (fun b => B ≤ b) w (.slice ao an ac) s.list
  no : guardB s = false → er ≠ 0
theorem OfG.none {s : St} {B : Nat} {w : World} {er : Int} (h : guardB s = false) (he : er ≠ 0) : OfG s B w 0 0 none 0 0 er := ⟨fun e => (by rw [h] at e; cases e), fun _ => he⟩
set_option maxHeartbeats 16000000 in
set_option maxRecDepth 100000 in
theorem guardOf_any {P : Nat → Prop} (s : St) (lo po : Option Addr) (ln lc pn pc : Nat) (w : World) (hs : Lies P w (s, ⟨lo, ln, lc⟩, ⟨po, pn, pc⟩)) (hm : s.list.length ≤ 9223372036854775807 ∧ s.pins.length ≤ 9223372036854775807) :
    Calls Tryz.prog 151 #[.agg #[.int .i64 s.author, .int .i64 s.number, .string s.prev, .int .i64 s.time, .int .i64 s.kind, .int .i64 s.a, .int .i64 s.b, .int .i64 s.c, .slice lo ln lc, .slice po pn pc, .string s.body, .int .i64 s.key, .string s.dig]] w fun e w' => ∃ (o n : Int) (ao : Option Addr) (an ac : Nat) (er : Int), e = .returned (.tuple #[.agg #[.int .i64 o, .int .i64 n, .slice ao an ac], .int .i64 er]) ∧ OfG s w.heap.size w' o n ao an ac er ∧ Ex w.heap.size none w w' := by
  have HLN : Hid (ln = s.list.length) := by obtain ⟨⟨_, _, e, _⟩, _⟩ := hs; simp only [Sv.v] at e; cases e; exact rfl
  have HPN : Hid (pn = s.pins.length) := by obtain ⟨_, ⟨_, _, e, _⟩⟩ := hs; simp only [Sv.v] at e; cases e; exact rfl
  have HLS := Lib.hid hs
  have HHM := Lib.hid hm
  clear hs hm
  go_enter Tryz.func151, Tryz.ntmps151
  go_upto_region 1 with (fail)
  obtain ⟨w0, hw0⟩ : ∃ w0 : World, w0 = (w.alloc (.cells #[.int .i64 s.author, .int .i64 s.number, .string s.prev, .int .i64 s.time, .int .i64 s.kind, .int .i64 s.a, .int .i64 s.b, .int .i64 s.c, .slice lo ln lc, .slice po pn pc, .string s.body, .int .i64 s.key, .string s.dig] 48)).alloc (.cells #[.int .i64 0, .int .i64 0, .slice none 0 0] 113) := ⟨_, rfl⟩
  have HE0 : Hid (Ex w.heap.size none w w0) := Lib.hid (by rw [hw0]; exact ex_two0 _ _)
  have hz0 : w0.heap.size = w.heap.size + 2 := by rw [hw0]; simp
  have HB : Hid (∀ w', Ex w0.heap.size none w0 w' → w'.heap[w.heap.size]? = some (.cells #[.int .i64 s.author, .int .i64 s.number, .string s.prev, .int .i64 s.time, .int .i64 s.kind, .int .i64 s.a, .int .i64 s.b, .int .i64 s.c, .slice lo ln lc, .slice po pn pc, .string s.body, .int .i64 s.key, .string s.dig] 48 (0, 0)) ∧ w'.heap[w.heap.size + 1]? = some (.cells #[.int .i64 0, .int .i64 0, .slice none 0 0] 113 (0, 0))) := Lib.hid (fun w' h => by
    rw [hw0] at h hz0
    exact ⟨(h.block _ (by omega) (by simp)).trans (heap_alloc2_old _ _ _), (h.block _ (by omega) (by simp)).trans (heap_alloc2_new _ _ _)⟩)
  have HQ : Hid (∀ w', Ex w0.heap.size none w0 w' → w'.cell? ⟨w.heap.size, 0, none⟩ = some (.int .i64 s.author) ∧ w'.cell? ⟨w.heap.size, 1, none⟩ = some (.int .i64 s.number) ∧ w'.cell? ⟨w.heap.size, 2, none⟩ = some (.string s.prev) ∧ w'.cell? ⟨w.heap.size, 3, none⟩ = some (.int .i64 s.time) ∧ w'.cell? ⟨w.heap.size, 4, none⟩ = some (.int .i64 s.kind) ∧ w'.cell? ⟨w.heap.size, 5, none⟩ = some (.int .i64 s.a) ∧ w'.cell? ⟨w.heap.size, 6, none⟩ = some (.int .i64 s.b) ∧ w'.cell? ⟨w.heap.size, 7, none⟩ = some (.int .i64 s.c) ∧ w'.cell? ⟨w.heap.size, 8, none⟩ = some (.slice lo ln lc) ∧ w'.cell? ⟨w.heap.size, 9, none⟩ = some (.slice po pn pc) ∧ w'.cell? ⟨w.heap.size, 10, none⟩ = some (.string s.body) ∧ w'.cell? ⟨w.heap.size, 11, none⟩ = some (.int .i64 s.key) ∧ w'.cell? ⟨w.heap.size, 12, none⟩ = some (.string s.dig)) := Lib.hid (fun w' h => (st_block (HB.out w' h).1).1)
  rw [← hw0]
  clear hw0
  obtain ⟨d0, d1, d2, d3, d4, d5, d6, d7, d8, d9, d10, d11, d12⟩ := HQ.out _ (Ex.refl _ _ w0)
  obtain ⟨q, hq⟩ : ∃ q, q = checkI s := ⟨_, rfl⟩
  have HCQ : Hid (checkI s = q) := Lib.hid hq.symm
  clear hq
  by_cases t7 : q = 0
  case neg =>
    have k7 : (q != 0) = true := by simp [t7]
    have HNO : Hid (guardB s = false) := Lib.hid (by simp only [guardB]; rw [show decide (checkI s = 0) = false from decide_eq_false (by rw [HCQ.out]; exact t7)]; simp)
    have HQ0 := Lib.hid t7
    clear t7
    go_upto_region 3 with (first | (go_at_call 96; refine (checkP_any s lo po ln lc pn pc _ (HLS.out.keep fun b _ hb => HE0.out.block b hb (by simp)) ⟨by rw [HLN.out]; exact HHM.out.1, by rw [HPN.out]; exact HHM.out.2⟩).mono ?_; rw [HCQ.out]; rintro e w1 ⟨rfl, hex⟩; have HE1 := Lib.hid hex; have hz1 := hex.size; clear hex d0 d1 d2 d3 d4 d5 d6 d7 d8 d9 d10 d11 d12; obtain ⟨d0, d1, d2, d3, d4, d5, d6, d7, d8, d9, d10, d11, d12⟩ := HQ.out _ HE1.out) | fail)
    have hrb := (HB.out _ HE1.out).2
    go_wp2_with (first | (refine wpList_store_rowTo rfl 113 (.tmp 2) (.tmp 10) rfl rfl (w.heap.size + 1) #[.int .i64 0, .int .i64 0, .slice none 0 0] (by rfl) (by rfl) 113 _ hrb Tryz.sizeG rfl (by simp [Value.oneCell']) ?_) | fail)
    have hr := run_loadVar_row (P := Tryz.prog) _ (w.heap.size + 1) 113 113 (#[.int .i64 0, .int .i64 0, .slice none 0 0] : Array Value) (0, 0) _ (setRow_heap _ _ _ _ _ _ hrb) Tryz.underlying113 rfl Tryz.sizeG
    refine bodyPost_ret (v := .tuple #[.agg #[.int .i64 0, .int .i64 0, .slice none 0 0], .int .i64 q]) ?_ rfl ?_
    · rw [results_cell_tmp Tryz.results151]
      show ((loadVar 113 ⟨w.heap.size + 1, 0, none⟩).run Tryz.prog _).andThen _ = _
      rw [hr]
      rfl
    exact ⟨_, _, _, _, _, _, rfl, OfG.none HNO.out HQ0.out, (HE0.out.trans HE1.out (by omega) (by simp)).setRow _ _ (.inr (by omega))⟩
  subst t7
  go_upto_region 4 with (first | (go_at_call 96; refine (checkP_any s lo po ln lc pn pc _ (HLS.out.keep fun b _ hb => HE0.out.block b hb (by simp)) ⟨by rw [HLN.out]; exact HHM.out.1, by rw [HPN.out]; exact HHM.out.2⟩).mono ?_; rw [HCQ.out]; rintro e w1 ⟨rfl, hex⟩; have HE1 := Lib.hid hex; have hz1 := hex.size; clear hex d0 d1 d2 d3 d4 d5 d6 d7 d8 d9 d10 d11 d12; obtain ⟨d0, d1, d2, d3, d4, d5, d6, d7, d8, d9, d10, d11, d12⟩ := HQ.out _ HE1.out) | fail)
  have HT := Lib.hid (checkI_right HCQ.out)
  have HCL : Hid (∀ W, Ex w1.heap.size none w1 W → Calls Tryz.prog 130 #[.slice lo ln lc] W fun e w' => ∃ (ao' : Option Addr) (n' c' : Nat), e = .returned (.slice ao' n' c') ∧ Sl intRep (fun b => W.heap.size ≤ b) w' (.slice ao' n' c') s.list ∧ Ex W.heap.size none W w') := Lib.hid (fun W hW => cloneInts_any lo ln lc s.list W (HLS.out.1.keep (by decide) fun b _ hb => (hW.block b (by omega) (by simp)).trans ((HE1.out.block b (by omega) (by simp)).trans (HE0.out.block b hb (by simp)))) (by have := HT.out.list; omega))
  go_cut [5] from 12 to 19 (fun v wx => ∃ (g : Nat) (ao : Option Addr) (an ac : Nat), v = .pointer (some ⟨g, 0, none⟩) ∧ w.heap.size + 1 < g ∧ g < wx.heap.size ∧ Hid (wx.heap[g]? = some (.cells #[.int .i64 s.author, .int .i64 s.a, .slice ao an ac] 113 (0, 0))) ∧ Hid (Sl intRep (fun b => w1.heap.size ≤ b ∧ b ≠ g) wx (.slice ao an ac) s.list) ∧ Hid (Ex w0.heap.size none w0 wx))
  case first =>
    rename_i J K' hJ hK
    have HJ := Lib.hid hJ
    have HK := Lib.hid hK
    clear hJ hK
    go_region_held3 (fun w' => w'.cell? ⟨w.heap.size, 0, none⟩ = some (.int .i64 s.author) ∧ w'.cell? ⟨w.heap.size, 1, none⟩ = some (.int .i64 s.number) ∧ w'.cell? ⟨w.heap.size, 2, none⟩ = some (.string s.prev) ∧ w'.cell? ⟨w.heap.size, 3, none⟩ = some (.int .i64 s.time) ∧ w'.cell? ⟨w.heap.size, 4, none⟩ = some (.int .i64 s.kind) ∧ w'.cell? ⟨w.heap.size, 5, none⟩ = some (.int .i64 s.a) ∧ w'.cell? ⟨w.heap.size, 6, none⟩ = some (.int .i64 s.b) ∧ w'.cell? ⟨w.heap.size, 7, none⟩ = some (.int .i64 s.c) ∧ w'.cell? ⟨w.heap.size, 8, none⟩ = some (.slice lo ln lc) ∧ w'.cell? ⟨w.heap.size, 9, none⟩ = some (.slice po pn pc) ∧ w'.cell? ⟨w.heap.size, 10, none⟩ = some (.string s.body) ∧ w'.cell? ⟨w.heap.size, 11, none⟩ = some (.int .i64 s.key) ∧ w'.cell? ⟨w.heap.size, 12, none⟩ = some (.string s.dig)) (exact HQ.out _ (by repeat (first | with_reducible exact HE2.out | with_reducible exact HE1.out | refine Ex.drew ?_ | refine Ex.setCell ?_ _ none _ (.inr (by first | omega | (simp; omega))) | refine Ex.alloc ?_ (by first | omega | (simp; omega)) _)))
      (first
        | (go_at_call 130
           refine (HCL.out _ (by with_reducible exact (Ex.refl _ _ w1).drew)).mono ?_
           rintro e w2 ⟨ao, an, ac, rfl, hsl, hex⟩
           have HX1 : Hid (Ex w1.heap.size none w1 w2) := Lib.hid (((Ex.refl w1.heap.size none w1).drew).trans hex (Nat.le_refl _) (by simp))
           have HE2 : Hid (Ex w0.heap.size none w0 w2) := Lib.hid (HE1.out.trans HX1.out hz1 (by simp))
           have hz2 : w1.heap.size ≤ w2.heap.size := HX1.out.size
           have HSL : Hid (Sl intRep (fun b => w1.heap.size ≤ b) w2 (.slice ao an ac) s.list) := Lib.hid (hsl.mono (by decide) fun b h _ => h)
           clear hsl hex)
        | (go_at_call 130
           refine (HCL.out _ (by with_reducible exact (Ex.new w1 _).drew)).mono ?_
           rintro e w2 ⟨ao, an, ac, rfl, hsl, hex⟩
           have HX1 : Hid (Ex w1.heap.size none w1 w2) := Lib.hid (((Ex.new w1 _).drew).trans hex (by simp) (by simp))
           have HE2 : Hid (Ex w0.heap.size none w0 w2) := Lib.hid (HE1.out.trans HX1.out hz1 (by simp))
           have hz2 : w1.heap.size ≤ w2.heap.size := HX1.out.size
           have HSL : Hid (Sl intRep (fun b => w1.heap.size + 1 ≤ b) w2 (.slice ao an ac) s.list) := Lib.hid (hsl.mono (by decide) fun b h _ => by simpa using h)
           have HBX : Hid (w2.heap[w1.heap.size]? = some (.cells #[.int .i64 0, .int .i64 0, .slice none 0 0] 113 (0, 0))) := Lib.hid ((hex.block w1.heap.size (by simp) (by simp)).trans (heap_alloc_new w1 _))
           have z0 : w2.cell? ⟨w1.heap.size, 0, none⟩ = some (.int .i64 0) := (by rw [cell_of_row _ _ _ _ _ _ HBX.out]; rfl)
           have z1 : w2.cell? ⟨w1.heap.size, 1, none⟩ = some (.int .i64 0) := (by rw [cell_of_row _ _ _ _ _ _ HBX.out]; rfl)
           have z2 : w2.cell? ⟨w1.heap.size, 2, none⟩ = some (.slice none 0 0) := (by rw [cell_of_row _ _ _ _ _ _ HBX.out]; rfl)
           have f0 := row_frozen_g (i := 0) HBX.out
           have f1 := row_frozen_g (i := 1) HBX.out
           have f2 := row_frozen_g (i := 2) HBX.out
           clear hsl hex)
        | fail)
    all_goals (
      refine HK.out _ _ (Met.intro (HJ.out _ _ ?_))
      (repeat apply Exists.intro)
      (first
        | exact ⟨⟨w1.heap.size, ao, an, ac, rfl, by omega, by simp; exact cell_lt z0, Lib.hid (set3g HBX.out), Lib.hid ((HSL.out.mono (by decide) fun b h _ => ⟨by omega, by omega⟩).keep (by decide) fun b h _ => set_far h.2 (set_far h.2 (set_far h.2 rfl))), Lib.hid (Ex.setCell (Ex.setCell (Ex.setCell HE2.out _ none _ (.inr hz1)) _ none _ (.inr hz1)) _ none _ (.inr hz1))⟩, rfl⟩
        | exact ⟨⟨w2.heap.size, ao, an, ac, rfl, by omega, by simp, Lib.hid (heap_alloc_new _ _), Lib.hid ((HSL.out.mono (by decide) fun b h hb => ⟨h, by omega⟩).keep (by decide) fun b h hb => (Ex.new w2 _).block b hb (by simp)), Lib.hid (HE2.out.alloc (by omega) _)⟩, rfl⟩
        | trace_state))
  case rest =>
    obtain ⟨g, ao, an, ac, rfl, hg, hgl, HG0, HSL0, HE3⟩ := hcut
    obtain ⟨w3, hw3⟩ : ∃ w3 : World, w3 = wc := ⟨_, rfl⟩
    subst hw3
    have hz3 := HE3.out.size
    have HG : Hid (∀ w', Ex w3.heap.size none w3 w' → w'.heap[g]? = some (.cells #[.int .i64 s.author, .int .i64 s.a, .slice ao an ac] 113 (0, 0))) := Lib.hid (fun w' h => (h.block _ hgl (by simp)).trans HG0.out)
    have HSL3 : Hid (∀ w', Ex w3.heap.size none w3 w' → Sl intRep (fun b => w1.heap.size ≤ b) w' (.slice ao an ac) s.list) := Lib.hid (fun w' h => (HSL0.out.keep (by decide) fun b _ hb => h.block b hb (by simp)).mono (by decide) fun b h _ => h.1)
    clear d0 d1 d2 d3 d4 d5 d6 d7 d8 d9 d10 d11 d12
    obtain ⟨d0, d1, d2, d3, d4, d5, d6, d7, d8, d9, d10, d11, d12⟩ := HQ.out _ HE3.out
    cases t0 : sealedB s with
    | false =>
      have HNO : Hid (guardB s = false) := Lib.hid (by simp [guardB, t0])
      go_upto_region 6 with (first | (go_at_call 97; refine (asB (sealedP_any s lo po ln lc pn pc _ (HLS.out.keep fun b _ hb => (HE3.out.block b (by omega) (by simp)).trans (HE0.out.block b hb (by simp))) HT.out.tame) t0).mono ?_; rintro e w4 ⟨rfl, hex⟩; have HE4 := Lib.hid hex; have hz4 := hex.size; have HE04 : Hid (Ex w0.heap.size none w0 w4) := Lib.hid (HE3.out.trans hex (by omega) (by simp)); clear hex d0 d1 d2 d3 d4 d5 d6 d7 d8 d9 d10 d11 d12; obtain ⟨d0, d1, d2, d3, d4, d5, d6, d7, d8, d9, d10, d11, d12⟩ := HQ.out _ HE04.out; obtain ⟨g0, g1, g2⟩ : w4.cell? ⟨g, 0, none⟩ = some (.int .i64 s.author) ∧ w4.cell? ⟨g, 1, none⟩ = some (.int .i64 s.a) ∧ w4.cell? ⟨g, 2, none⟩ = some (.slice ao an ac) := (by have k := HG.out _ HE4.out; refine ⟨?_, ?_, ?_⟩ <;> (rw [cell_of_row _ _ _ _ _ _ k]; rfl))) | fail)
      have hrb := (HB.out _ HE04.out).2
      go_wp2_with (first | (refine wpList_store_rowTo rfl 113 (.tmp 2) (.tmp 54) rfl rfl (w.heap.size + 1) #[.int .i64 0, .int .i64 0, .slice none 0 0] (by rfl) (by rfl) 113 _ hrb Tryz.sizeG rfl (by simp [Value.oneCell']) ?_) | fail)
      have hr := run_loadVar_row (P := Tryz.prog) _ (w.heap.size + 1) 113 113 (#[.int .i64 0, .int .i64 0, .slice none 0 0] : Array Value) (0, 0) _ (setRow_heap _ _ _ _ _ _ hrb) Tryz.underlying113 rfl Tryz.sizeG
      refine bodyPost_ret (v := .tuple #[.agg #[.int .i64 0, .int .i64 0, .slice none 0 0], .int .i64 47]) ?_ rfl ?_
      · rw [results_cell_tmp Tryz.results151]
        show ((loadVar 113 ⟨w.heap.size + 1, 0, none⟩).run Tryz.prog _).andThen _ = _
        rw [hr]
        rfl
      exact ⟨_, _, _, _, _, _, rfl, OfG.none HNO.out (by decide), (HE0.out.trans HE04.out (by omega) (by simp)).setRow _ _ (.inr (by omega))⟩
    | true =>
      by_cases t1 : s.kind = 12
      case neg =>
        have k1 : (s.kind != 12) = true := by simp [t1]
        have HT1 := Lib.hid t1
        clear t1
        have HNO : Hid (guardB s = false) := Lib.hid (by simp [guardB, HT1.out])
        go_upto_region 6 with (first | (go_at_call 97; refine (asB (sealedP_any s lo po ln lc pn pc _ (HLS.out.keep fun b _ hb => (HE3.out.block b (by omega) (by simp)).trans (HE0.out.block b hb (by simp))) HT.out.tame) t0).mono ?_; rintro e w4 ⟨rfl, hex⟩; have HE4 := Lib.hid hex; have hz4 := hex.size; have HE04 : Hid (Ex w0.heap.size none w0 w4) := Lib.hid (HE3.out.trans hex (by omega) (by simp)); clear hex d0 d1 d2 d3 d4 d5 d6 d7 d8 d9 d10 d11 d12; obtain ⟨d0, d1, d2, d3, d4, d5, d6, d7, d8, d9, d10, d11, d12⟩ := HQ.out _ HE04.out; obtain ⟨g0, g1, g2⟩ : w4.cell? ⟨g, 0, none⟩ = some (.int .i64 s.author) ∧ w4.cell? ⟨g, 1, none⟩ = some (.int .i64 s.a) ∧ w4.cell? ⟨g, 2, none⟩ = some (.slice ao an ac) := (by have k := HG.out _ HE4.out; refine ⟨?_, ?_, ?_⟩ <;> (rw [cell_of_row _ _ _ _ _ _ k]; rfl))) | fail)
        have hrb := (HB.out _ HE04.out).2
        go_wp2_with (first | (refine wpList_store_rowTo rfl 113 (.tmp 2) (.tmp 54) rfl rfl (w.heap.size + 1) #[.int .i64 0, .int .i64 0, .slice none 0 0] (by rfl) (by rfl) 113 _ hrb Tryz.sizeG rfl (by simp [Value.oneCell']) ?_) | fail)
        have hr := run_loadVar_row (P := Tryz.prog) _ (w.heap.size + 1) 113 113 (#[.int .i64 0, .int .i64 0, .slice none 0 0] : Array Value) (0, 0) _ (setRow_heap _ _ _ _ _ _ hrb) Tryz.underlying113 rfl Tryz.sizeG
        refine bodyPost_ret (v := .tuple #[.agg #[.int .i64 0, .int .i64 0, .slice none 0 0], .int .i64 47]) ?_ rfl ?_
        · rw [results_cell_tmp Tryz.results151]
          show ((loadVar 113 ⟨w.heap.size + 1, 0, none⟩).run Tryz.prog _).andThen _ = _
          rw [hr]
          rfl
        exact ⟨_, _, _, _, _, _, rfl, OfG.none HNO.out (by decide), (HE0.out.trans HE04.out (by omega) (by simp)).setRow _ _ (.inr (by omega))⟩
      have k1 : (s.kind != 12) = false := by simp [t1]
      have HT1 := Lib.hid t1
      clear t1
      by_cases t2 : s.b = 0
      case neg =>
        have kt2 : (s.b != 0) = true := by simp [t2]
        have Ht2 := Lib.hid t2
        clear t2
        have HNO : Hid (guardB s = false) := Lib.hid (by simp [guardB, Ht2.out])
        go_upto_region 6 with (first | (go_at_call 97; refine (asB (sealedP_any s lo po ln lc pn pc _ (HLS.out.keep fun b _ hb => (HE3.out.block b (by omega) (by simp)).trans (HE0.out.block b hb (by simp))) HT.out.tame) t0).mono ?_; rintro e w4 ⟨rfl, hex⟩; have HE4 := Lib.hid hex; have hz4 := hex.size; have HE04 : Hid (Ex w0.heap.size none w0 w4) := Lib.hid (HE3.out.trans hex (by omega) (by simp)); clear hex d0 d1 d2 d3 d4 d5 d6 d7 d8 d9 d10 d11 d12; obtain ⟨d0, d1, d2, d3, d4, d5, d6, d7, d8, d9, d10, d11, d12⟩ := HQ.out _ HE04.out; obtain ⟨g0, g1, g2⟩ : w4.cell? ⟨g, 0, none⟩ = some (.int .i64 s.author) ∧ w4.cell? ⟨g, 1, none⟩ = some (.int .i64 s.a) ∧ w4.cell? ⟨g, 2, none⟩ = some (.slice ao an ac) := (by have k := HG.out _ HE4.out; refine ⟨?_, ?_, ?_⟩ <;> (rw [cell_of_row _ _ _ _ _ _ k]; rfl))) | fail)
        have hrb := (HB.out _ HE04.out).2
        go_wp2_with (first | (refine wpList_store_rowTo rfl 113 (.tmp 2) (.tmp 54) rfl rfl (w.heap.size + 1) #[.int .i64 0, .int .i64 0, .slice none 0 0] (by rfl) (by rfl) 113 _ hrb Tryz.sizeG rfl (by simp [Value.oneCell']) ?_) | fail)
        have hr := run_loadVar_row (P := Tryz.prog) _ (w.heap.size + 1) 113 113 (#[.int .i64 0, .int .i64 0, .slice none 0 0] : Array Value) (0, 0) _ (setRow_heap _ _ _ _ _ _ hrb) Tryz.underlying113 rfl Tryz.sizeG
        refine bodyPost_ret (v := .tuple #[.agg #[.int .i64 0, .int .i64 0, .slice none 0 0], .int .i64 47]) ?_ rfl ?_
        · rw [results_cell_tmp Tryz.results151]
          show ((loadVar 113 ⟨w.heap.size + 1, 0, none⟩).run Tryz.prog _).andThen _ = _
          rw [hr]
          rfl
        exact ⟨_, _, _, _, _, _, rfl, OfG.none HNO.out (by decide), (HE0.out.trans HE04.out (by omega) (by simp)).setRow _ _ (.inr (by omega))⟩
      have kt2 : (s.b != 0) = false := by simp [t2]
      have Ht2 := Lib.hid t2
      clear t2
      by_cases t3 : s.c = 0
      case neg =>
        have kt3 : (s.c != 0) = true := by simp [t3]
        have Ht3 := Lib.hid t3
        clear t3
        have HNO : Hid (guardB s = false) := Lib.hid (by simp [guardB, Ht3.out])
        go_upto_region 6 with (first | (go_at_call 97; refine (asB (sealedP_any s lo po ln lc pn pc _ (HLS.out.keep fun b _ hb => (HE3.out.block b (by omega) (by simp)).trans (HE0.out.block b hb (by simp))) HT.out.tame) t0).mono ?_; rintro e w4 ⟨rfl, hex⟩; have HE4 := Lib.hid hex; have hz4 := hex.size; have HE04 : Hid (Ex w0.heap.size none w0 w4) := Lib.hid (HE3.out.trans hex (by omega) (by simp)); clear hex d0 d1 d2 d3 d4 d5 d6 d7 d8 d9 d10 d11 d12; obtain ⟨d0, d1, d2, d3, d4, d5, d6, d7, d8, d9, d10, d11, d12⟩ := HQ.out _ HE04.out; obtain ⟨g0, g1, g2⟩ : w4.cell? ⟨g, 0, none⟩ = some (.int .i64 s.author) ∧ w4.cell? ⟨g, 1, none⟩ = some (.int .i64 s.a) ∧ w4.cell? ⟨g, 2, none⟩ = some (.slice ao an ac) := (by have k := HG.out _ HE4.out; refine ⟨?_, ?_, ?_⟩ <;> (rw [cell_of_row _ _ _ _ _ _ k]; rfl))) | fail)
        have hrb := (HB.out _ HE04.out).2
        go_wp2_with (first | (refine wpList_store_rowTo rfl 113 (.tmp 2) (.tmp 54) rfl rfl (w.heap.size + 1) #[.int .i64 0, .int .i64 0, .slice none 0 0] (by rfl) (by rfl) 113 _ hrb Tryz.sizeG rfl (by simp [Value.oneCell']) ?_) | fail)
        have hr := run_loadVar_row (P := Tryz.prog) _ (w.heap.size + 1) 113 113 (#[.int .i64 0, .int .i64 0, .slice none 0 0] : Array Value) (0, 0) _ (setRow_heap _ _ _ _ _ _ hrb) Tryz.underlying113 rfl Tryz.sizeG
        refine bodyPost_ret (v := .tuple #[.agg #[.int .i64 0, .int .i64 0, .slice none 0 0], .int .i64 47]) ?_ rfl ?_
        · rw [results_cell_tmp Tryz.results151]
          show ((loadVar 113 ⟨w.heap.size + 1, 0, none⟩).run Tryz.prog _).andThen _ = _
          rw [hr]
          rfl
        exact ⟨_, _, _, _, _, _, rfl, OfG.none HNO.out (by decide), (HE0.out.trans HE04.out (by omega) (by simp)).setRow _ _ (.inr (by omega))⟩
      have kt3 : (s.c != 0) = false := by simp [t3]
      have Ht3 := Lib.hid t3
      clear t3
      by_cases t4 : pn = 0
      case neg =>
        have k4 : 0 < pn := by omega
        have k4d : decide (0 < pn) = true := decide_eq_true k4
        have Ht4 := Lib.hid t4
        clear t4
        have HNO : Hid (guardB s = false) := Lib.hid (by simp only [guardB]; rw [show decide (s.pins.length = 0) = false from decide_eq_false (by rw [← HPN.out]; exact Ht4.out)]; simp)
        go_upto_region 6 with (first | (go_at_call 97; refine (asB (sealedP_any s lo po ln lc pn pc _ (HLS.out.keep fun b _ hb => (HE3.out.block b (by omega) (by simp)).trans (HE0.out.block b hb (by simp))) HT.out.tame) t0).mono ?_; rintro e w4 ⟨rfl, hex⟩; have HE4 := Lib.hid hex; have hz4 := hex.size; have HE04 : Hid (Ex w0.heap.size none w0 w4) := Lib.hid (HE3.out.trans hex (by omega) (by simp)); clear hex d0 d1 d2 d3 d4 d5 d6 d7 d8 d9 d10 d11 d12; obtain ⟨d0, d1, d2, d3, d4, d5, d6, d7, d8, d9, d10, d11, d12⟩ := HQ.out _ HE04.out; obtain ⟨g0, g1, g2⟩ : w4.cell? ⟨g, 0, none⟩ = some (.int .i64 s.author) ∧ w4.cell? ⟨g, 1, none⟩ = some (.int .i64 s.a) ∧ w4.cell? ⟨g, 2, none⟩ = some (.slice ao an ac) := (by have k := HG.out _ HE4.out; refine ⟨?_, ?_, ?_⟩ <;> (rw [cell_of_row _ _ _ _ _ _ k]; rfl))) | fail)
        have hrb := (HB.out _ HE04.out).2
        go_wp2_with (first | (refine wpList_store_rowTo rfl 113 (.tmp 2) (.tmp 54) rfl rfl (w.heap.size + 1) #[.int .i64 0, .int .i64 0, .slice none 0 0] (by rfl) (by rfl) 113 _ hrb Tryz.sizeG rfl (by simp [Value.oneCell']) ?_) | fail)
        have hr := run_loadVar_row (P := Tryz.prog) _ (w.heap.size + 1) 113 113 (#[.int .i64 0, .int .i64 0, .slice none 0 0] : Array Value) (0, 0) _ (setRow_heap _ _ _ _ _ _ hrb) Tryz.underlying113 rfl Tryz.sizeG
        refine bodyPost_ret (v := .tuple #[.agg #[.int .i64 0, .int .i64 0, .slice none 0 0], .int .i64 47]) ?_ rfl ?_
        · rw [results_cell_tmp Tryz.results151]
          show ((loadVar 113 ⟨w.heap.size + 1, 0, none⟩).run Tryz.prog _).andThen _ = _
          rw [hr]
          rfl
        exact ⟨_, _, _, _, _, _, rfl, OfG.none HNO.out (by decide), (HE0.out.trans HE04.out (by omega) (by simp)).setRow _ _ (.inr (by omega))⟩
      have k4d : decide (0 < pn) = false := decide_eq_false (by omega)
      have Ht4 := Lib.hid t4
      clear t4
      by_cases t6 : s.body = ⟨#[]⟩
      case neg =>
        obtain ⟨k6a, k6b, k6c⟩ := nonempty_facts t6
        have Ht6 := Lib.hid t6
        clear t6
        have HNO : Hid (guardB s = false) := Lib.hid (by simp [guardB, Ht6.out])
        go_upto_region 6 with (first | (go_at_call 97; refine (asB (sealedP_any s lo po ln lc pn pc _ (HLS.out.keep fun b _ hb => (HE3.out.block b (by omega) (by simp)).trans (HE0.out.block b hb (by simp))) HT.out.tame) t0).mono ?_; rintro e w4 ⟨rfl, hex⟩; have HE4 := Lib.hid hex; have hz4 := hex.size; have HE04 : Hid (Ex w0.heap.size none w0 w4) := Lib.hid (HE3.out.trans hex (by omega) (by simp)); clear hex d0 d1 d2 d3 d4 d5 d6 d7 d8 d9 d10 d11 d12; obtain ⟨d0, d1, d2, d3, d4, d5, d6, d7, d8, d9, d10, d11, d12⟩ := HQ.out _ HE04.out; obtain ⟨g0, g1, g2⟩ : w4.cell? ⟨g, 0, none⟩ = some (.int .i64 s.author) ∧ w4.cell? ⟨g, 1, none⟩ = some (.int .i64 s.a) ∧ w4.cell? ⟨g, 2, none⟩ = some (.slice ao an ac) := (by have k := HG.out _ HE4.out; refine ⟨?_, ?_, ?_⟩ <;> (rw [cell_of_row _ _ _ _ _ _ k]; rfl))) | fail)
        have hrb := (HB.out _ HE04.out).2
        go_wp2_with (first | (refine wpList_store_rowTo rfl 113 (.tmp 2) (.tmp 54) rfl rfl (w.heap.size + 1) #[.int .i64 0, .int .i64 0, .slice none 0 0] (by rfl) (by rfl) 113 _ hrb Tryz.sizeG rfl (by simp [Value.oneCell']) ?_) | fail)
        have hr := run_loadVar_row (P := Tryz.prog) _ (w.heap.size + 1) 113 113 (#[.int .i64 0, .int .i64 0, .slice none 0 0] : Array Value) (0, 0) _ (setRow_heap _ _ _ _ _ _ hrb) Tryz.underlying113 rfl Tryz.sizeG
        refine bodyPost_ret (v := .tuple #[.agg #[.int .i64 0, .int .i64 0, .slice none 0 0], .int .i64 47]) ?_ rfl ?_
        · rw [results_cell_tmp Tryz.results151]
          show ((loadVar 113 ⟨w.heap.size + 1, 0, none⟩).run Tryz.prog _).andThen _ = _
          rw [hr]
          rfl
        exact ⟨_, _, _, _, _, _, rfl, OfG.none HNO.out (by decide), (HE0.out.trans HE04.out (by omega) (by simp)).setRow _ _ (.inr (by omega))⟩
      obtain ⟨k6a, k6b, k6c⟩ := empty_facts t6
      have k6 : s.body.toList = [] := by rw [t6]; exact ByteArray.toList_eq _
      have Ht6 := Lib.hid t6
      clear t6
      cases t8 : validG s.author s.a s.list with
      | false =>
        have HNO : Hid (guardB s = false) := Lib.hid (by simp [guardB, t8])
        go_upto_region 6 with (first | (go_at_call 97; refine (asB (sealedP_any s lo po ln lc pn pc _ (HLS.out.keep fun b _ hb => (HE3.out.block b (by omega) (by simp)).trans (HE0.out.block b hb (by simp))) HT.out.tame) t0).mono ?_; rintro e w4 ⟨rfl, hex⟩; have HE4 := Lib.hid hex; have hz4 := hex.size; have HE04 : Hid (Ex w0.heap.size none w0 w4) := Lib.hid (HE3.out.trans hex (by omega) (by simp)); clear hex d0 d1 d2 d3 d4 d5 d6 d7 d8 d9 d10 d11 d12; obtain ⟨d0, d1, d2, d3, d4, d5, d6, d7, d8, d9, d10, d11, d12⟩ := HQ.out _ HE04.out; obtain ⟨g0, g1, g2⟩ : w4.cell? ⟨g, 0, none⟩ = some (.int .i64 s.author) ∧ w4.cell? ⟨g, 1, none⟩ = some (.int .i64 s.a) ∧ w4.cell? ⟨g, 2, none⟩ = some (.slice ao an ac) := (by have k := HG.out _ HE4.out; refine ⟨?_, ?_, ?_⟩ <;> (rw [cell_of_row _ _ _ _ _ _ k]; rfl))) | (go_at_call 152; refine (asB (validP_any s.author s.a ao an ac s.list _ (sl_ints (HSL3.out _ HE4.out)).at' (by have h := (HSL3.out _ HE4.out); obtain ⟨_, _, e, _⟩ := h; cases e; rfl) (by have h := (HSL3.out _ HE4.out); obtain ⟨_, _, e, _⟩ := h; cases e; have := HT.out.list; omega)) t8).mono ?_; rintro e w5 ⟨rfl, hex⟩; have HE5 := Lib.hid hex; have hz5 := hex.size; have HE35 : Hid (Ex w3.heap.size none w3 w5) := Lib.hid (HE4.out.trans hex (by omega) (by simp)); have HE05 : Hid (Ex w0.heap.size none w0 w5) := Lib.hid (HE3.out.trans HE35.out (by omega) (by simp)); clear hex) | fail)
        have hrb := (HB.out _ HE05.out).2
        go_wp2_with (first | (refine wpList_store_rowTo rfl 113 (.tmp 2) (.tmp 54) rfl rfl (w.heap.size + 1) #[.int .i64 0, .int .i64 0, .slice none 0 0] (by rfl) (by rfl) 113 _ hrb Tryz.sizeG rfl (by simp [Value.oneCell']) ?_) | fail)
        have hr := run_loadVar_row (P := Tryz.prog) _ (w.heap.size + 1) 113 113 (#[.int .i64 0, .int .i64 0, .slice none 0 0] : Array Value) (0, 0) _ (setRow_heap _ _ _ _ _ _ hrb) Tryz.underlying113 rfl Tryz.sizeG
        refine bodyPost_ret (v := .tuple #[.agg #[.int .i64 0, .int .i64 0, .slice none 0 0], .int .i64 47]) ?_ rfl ?_
        · rw [results_cell_tmp Tryz.results151]
          show ((loadVar 113 ⟨w.heap.size + 1, 0, none⟩).run Tryz.prog _).andThen _ = _
          rw [hr]
          rfl
        exact ⟨_, _, _, _, _, _, rfl, OfG.none HNO.out (by decide), (HE0.out.trans HE05.out (by omega) (by simp)).setRow _ _ (.inr (by omega))⟩
      | true =>
        have HYES : Hid (guardB s = true) := Lib.hid (by simp only [guardB, HCQ.out, t0, HT1.out, Ht2.out, Ht3.out, show s.pins.length = 0 from by rw [← HPN.out]; exact Ht4.out, Ht6.out, t8]; rfl)
        go_upto_region 7 with (first | (go_at_call 97; refine (asB (sealedP_any s lo po ln lc pn pc _ (HLS.out.keep fun b _ hb => (HE3.out.block b (by omega) (by simp)).trans (HE0.out.block b hb (by simp))) HT.out.tame) t0).mono ?_; rintro e w4 ⟨rfl, hex⟩; have HE4 := Lib.hid hex; have hz4 := hex.size; have HE04 : Hid (Ex w0.heap.size none w0 w4) := Lib.hid (HE3.out.trans hex (by omega) (by simp)); clear hex d0 d1 d2 d3 d4 d5 d6 d7 d8 d9 d10 d11 d12; obtain ⟨d0, d1, d2, d3, d4, d5, d6, d7, d8, d9, d10, d11, d12⟩ := HQ.out _ HE04.out; obtain ⟨g0, g1, g2⟩ : w4.cell? ⟨g, 0, none⟩ = some (.int .i64 s.author) ∧ w4.cell? ⟨g, 1, none⟩ = some (.int .i64 s.a) ∧ w4.cell? ⟨g, 2, none⟩ = some (.slice ao an ac) := (by have k := HG.out _ HE4.out; refine ⟨?_, ?_, ?_⟩ <;> (rw [cell_of_row _ _ _ _ _ _ k]; rfl))) | (go_at_call 152; refine (asB (validP_any s.author s.a ao an ac s.list _ (sl_ints (HSL3.out _ HE4.out)).at' (by have h := (HSL3.out _ HE4.out); obtain ⟨_, _, e, _⟩ := h; cases e; rfl) (by have h := (HSL3.out _ HE4.out); obtain ⟨_, _, e, _⟩ := h; cases e; have := HT.out.list; omega)) t8).mono ?_; rintro e w5 ⟨rfl, hex⟩; have HE5 := Lib.hid hex; have hz5 := hex.size; have HE35 : Hid (Ex w3.heap.size none w3 w5) := Lib.hid (HE4.out.trans hex (by omega) (by simp)); have HE05 : Hid (Ex w0.heap.size none w0 w5) := Lib.hid (HE3.out.trans HE35.out (by omega) (by simp)); clear hex) | fail)
        obtain ⟨h0, h1, h2⟩ : w5.cell? ⟨g, 0, none⟩ = some (.int .i64 s.author) ∧ w5.cell? ⟨g, 1, none⟩ = some (.int .i64 s.a) ∧ w5.cell? ⟨g, 2, none⟩ = some (.slice ao an ac) := (by have k := HG.out _ HE35.out; refine ⟨?_, ?_, ?_⟩ <;> (rw [cell_of_row _ _ _ _ _ _ k]; rfl))
        have hrb := (HB.out _ HE05.out).2
        go_wp2_with (first | (refine wpList_store_rowTo rfl 113 (.tmp 2) (.tmp 55) rfl rfl (w.heap.size + 1) #[.int .i64 s.author, .int .i64 s.a, .slice ao an ac] (by rfl) (by rfl) 113 _ hrb Tryz.sizeG rfl (by simp [Value.oneCell']) ?_) | fail)
        have hr := run_loadVar_row (P := Tryz.prog) _ (w.heap.size + 1) 113 113 (#[.int .i64 s.author, .int .i64 s.a, .slice ao an ac] : Array Value) (0, 0) _ (setRow_heap _ _ _ _ _ _ hrb) Tryz.underlying113 rfl Tryz.sizeG
        refine bodyPost_ret (v := .tuple #[.agg #[.int .i64 s.author, .int .i64 s.a, .slice ao an ac], .int .i64 0]) ?_ rfl ?_
        · rw [results_cell_tmp Tryz.results151]
          show ((loadVar 113 ⟨w.heap.size + 1, 0, none⟩).run Tryz.prog _).andThen _ = _
          rw [hr]
          rfl
        exact ⟨_, _, _, _, _, _, rfl, ⟨fun _ => ⟨rfl, rfl, rfl, ((HSL3.out _ HE35.out).keep (by decide) fun b h _ => setRow_other _ _ _ _ (by omega)).mono (by decide) fun b h _ => by omega⟩, fun e => by rw [HYES.out] at e; cases e⟩, (HE0.out.trans HE05.out (by omega) (by simp)).setRow _ _ (.inr (by omega))⟩
end Go.Proofs.YtaghfcnpnfhacaaGreat

/- ref34.Of at whatever statement: a contract, no statement of the seat. -/
import Derived.Test.YtaghfcnpnfhacaaGreatGuardOfG
import Derived.Test.YtaghfcnpnfhacaaGreatMg01
import Derived.Test.YtaghfcnpnfhacaaGreatMg05
import Derived.Test.YtaghfcnpnfhacaaGreatMillStG
namespace Go.Proofs.YtaghfcnpnfhacaaGreat
open Go.RowKit Go.Sort

/-- What all ways through the region have made. -/
def OfCut (w w0 w1 : World) (ln : Nat) (s : St) (v : Value) (wx : World) : Prop := ∃ (g : Nat) (ao : Option Addr) (ac : Nat), v = .pointer (some ⟨g, 0, none⟩) ∧ w.heap.size + 1 < g ∧ g < wx.heap.size ∧ Hid (wx.heap[g]? = some (.cells #[.int .i64 s.author, .int .i64 s.a, .slice ao ln ac] 113 (0, 0))) ∧ Hid (Sl intRep (fun b => w1.heap.size ≤ b) wx (.slice ao ln ac) s.list) ∧ Hid (Ex w0.heap.size none w0 wx)
section
variable {w w0 w1 w2 : World} {ln g : Nat} {s : St} {P : Nat → Prop} {ao : Option Addr} {ac : Nat}
theorem of_k1 (hz : w0.heap.size = w.heap.size + 2) (_hz1 : w0.heap.size ≤ w1.heap.size) (HE : Ex w0.heap.size none w0 w2) (hg : g = w2.heap.size) (HS : Sl intRep P w2 (.slice ao ln ac) s.list) (hP : ∀ b, P b → w1.heap.size ≤ b) : OfCut w w0 w1 ln s (.pointer (some ⟨g, 0, none⟩)) (w2.alloc (.cells #[.int .i64 s.author, .int .i64 s.a, .slice ao ln ac] 113)) := by
  have hs := HE.size
  subst hg
  exact ⟨_, ao, ac, rfl, by omega, by simp, Lib.hid (heap_alloc_new _ _), Lib.hid ((HS.keep (by decide) fun b _ hb => at_old _ _ _ hb).mono (by decide) fun b h _ => hP b h), Lib.hid (HE.alloc hs _)⟩
theorem of_k2 (hz : w0.heap.size = w.heap.size + 2) (hz1 : w0.heap.size ≤ w1.heap.size) (HE : Ex w0.heap.size none w0 w2) (hg : w1.heap.size ≤ g) (HB : w2.heap[g]? = some (.cells #[.int .i64 0, .int .i64 0, .slice none 0 0] 113 (0, 0))) (HS : Sl intRep P w2 (.slice ao ln ac) s.list) (hP : ∀ b, P b → w1.heap.size ≤ b ∧ b ≠ g) : OfCut w w0 w1 ln s (.pointer (some ⟨g, 0, none⟩)) (((w2.setCell ⟨g, 0, none⟩ (.int .i64 s.author)).setCell ⟨g, 1, none⟩ (.int .i64 s.a)).setCell ⟨g, 2, none⟩ (.slice ao ln ac)) := by
  have hl := (Array.getElem?_eq_some_iff.1 HB).1
  refine ⟨g, ao, ac, rfl, by omega, by simp; exact hl, Lib.hid (set3g HB), Lib.hid ((HS.keep (by decide) fun b h _ => set_far (hP b h).2 (set_far (hP b h).2 (set_far (hP b h).2 rfl))).mono (by decide) fun b h _ => (hP b h).1), Lib.hid ?_⟩
  refine Ex.setCell ?_ _ none _ (.inr (by omega)); refine Ex.setCell ?_ _ none _ (.inr (by omega)); refine Ex.setCell ?_ _ none _ (.inr (by omega)); exact HE
end

set_option maxHeartbeats 16000000 in
set_option maxRecDepth 100000 in
theorem of34_any {P : Nat → Prop} (s : St) (lo po : Option Addr) (ln lc pn pc : Nat) (w : World) (hs : Lies P w (s, ⟨lo, ln, lc⟩, ⟨po, pn, pc⟩)) (hm : s.list.length ≤ 9223372036854775807 ∧ s.pins.length ≤ 9223372036854775807) :
    Calls Tryz.prog 155 #[.agg #[.int .i64 s.author, .int .i64 s.number, .string s.prev, .int .i64 s.time, .int .i64 s.kind, .int .i64 s.a, .int .i64 s.b, .int .i64 s.c, .slice lo ln lc, .slice po pn pc, .string s.body, .int .i64 s.key, .string s.dig]] w fun e w' => ∃ (o n : Int) (ao : Option Addr) (an ac : Nat) (er : Int), e = .returned (.tuple #[.agg #[.int .i64 o, .int .i64 n, .slice ao an ac], .int .i64 er]) ∧ OfG s w.heap.size w' o n ao an ac er ∧ Ex w.heap.size none w w' := by
  have HLN : Hid (ln = s.list.length) := by obtain ⟨⟨_, _, e, _⟩, _⟩ := hs; simp only [Sv.v] at e; cases e; exact rfl
  have HPN : Hid (pn = s.pins.length) := by obtain ⟨_, ⟨_, _, e, _⟩⟩ := hs; simp only [Sv.v] at e; cases e; exact rfl
  have HLS := Lib.hid hs
  have HHM := Lib.hid hm
  clear hs hm
  go_enter Tryz.func155, Tryz.ntmps155
  go_upto_region 1 with (fail)
  obtain ⟨w0, hw0⟩ : ∃ w0 : World, w0 = (w.alloc (.cells #[.int .i64 s.author, .int .i64 s.number, .string s.prev, .int .i64 s.time, .int .i64 s.kind, .int .i64 s.a, .int .i64 s.b, .int .i64 s.c, .slice lo ln lc, .slice po pn pc, .string s.body, .int .i64 s.key, .string s.dig] 48)).alloc (.cells #[.int .i64 0, .int .i64 0, .slice none 0 0] 113) := ⟨_, rfl⟩
  have HE0 : Hid (Ex w.heap.size none w w0) := Lib.hid (by rw [hw0]; exact ex_two0 _ _)
  have hz0 : w0.heap.size = w.heap.size + 2 := by rw [hw0]; simp
  have HB : Hid (∀ w', Ex w0.heap.size none w0 w' → w'.heap[w.heap.size]? = some (.cells #[.int .i64 s.author, .int .i64 s.number, .string s.prev, .int .i64 s.time, .int .i64 s.kind, .int .i64 s.a, .int .i64 s.b, .int .i64 s.c, .slice lo ln lc, .slice po pn pc, .string s.body, .int .i64 s.key, .string s.dig] 48 (0, 0)) ∧ w'.heap[w.heap.size + 1]? = some (.cells #[.int .i64 0, .int .i64 0, .slice none 0 0] 113 (0, 0))) := Lib.hid (fun w' h => by
    rw [hw0] at h hz0
    exact ⟨(h.block _ (by omega) (by simp)).trans (heap_alloc2_old _ _ _), (h.block _ (by omega) (by simp)).trans (heap_alloc2_new _ _ _)⟩)
  have HQ : Hid (∀ w', Ex w0.heap.size none w0 w' → w'.cell? ⟨w.heap.size, 0, none⟩ = some (.int .i64 s.author) ∧ w'.cell? ⟨w.heap.size, 1, none⟩ = some (.int .i64 s.number) ∧ w'.cell? ⟨w.heap.size, 2, none⟩ = some (.string s.prev) ∧ w'.cell? ⟨w.heap.size, 3, none⟩ = some (.int .i64 s.time) ∧ w'.cell? ⟨w.heap.size, 4, none⟩ = some (.int .i64 s.kind) ∧ w'.cell? ⟨w.heap.size, 5, none⟩ = some (.int .i64 s.a) ∧ w'.cell? ⟨w.heap.size, 6, none⟩ = some (.int .i64 s.b) ∧ w'.cell? ⟨w.heap.size, 7, none⟩ = some (.int .i64 s.c) ∧ w'.cell? ⟨w.heap.size, 8, none⟩ = some (.slice lo ln lc) ∧ w'.cell? ⟨w.heap.size, 9, none⟩ = some (.slice po pn pc) ∧ w'.cell? ⟨w.heap.size, 10, none⟩ = some (.string s.body) ∧ w'.cell? ⟨w.heap.size, 11, none⟩ = some (.int .i64 s.key) ∧ w'.cell? ⟨w.heap.size, 12, none⟩ = some (.string s.dig)) := Lib.hid (fun w' h => (st_block (HB.out w' h).1).1)
  rw [← hw0]
  clear hw0
  obtain ⟨d0, d1, d2, d3, d4, d5, d6, d7, d8, d9, d10, d11, d12⟩ := HQ.out _ (Ex.refl _ _ w0)
  obtain ⟨q, hq⟩ : ∃ q, q = checkI s := ⟨_, rfl⟩
  have HCQ : Hid (checkI s = q) := Lib.hid hq.symm
  clear hq
  by_cases t7 : q = 0
  case neg =>
    have k7 : (q != 0) = true := by simp [t7]
    have HNO : Hid (guardB s = false) := Lib.hid (by simp only [guardB]; rw [show decide (checkI s = 0) = false from decide_eq_false (by rw [HCQ.out]; exact t7)]; simp)
    have HQ0 := Lib.hid t7
    clear t7
    go_upto_region 3 with (first | (go_at_call 150; refine (check03_any s lo po ln lc pn pc _ (HLS.out.keep fun b _ hb => HE0.out.block b hb (by simp)) HHM.out).mono ?_; rw [HCQ.out]; rintro e w1 ⟨rfl, hex⟩; have HE1 := Lib.hid hex; have hz1 := hex.size; clear hex d0 d1 d2 d3 d4 d5 d6 d7 d8 d9 d10 d11 d12; obtain ⟨d0, d1, d2, d3, d4, d5, d6, d7, d8, d9, d10, d11, d12⟩ := HQ.out _ HE1.out) | fail)
    have hrb := (HB.out _ HE1.out).2
    go_wp2_with (first | (refine wpList_store_rowTo rfl 113 (.tmp 2) (.tmp 10) rfl rfl (w.heap.size + 1) #[.int .i64 0, .int .i64 0, .slice none 0 0] (by rfl) (by rfl) 113 _ hrb Tryz.sizeG rfl (by simp [Value.oneCell']) ?_) | fail)
    have hr := run_loadVar_row (P := Tryz.prog) _ (w.heap.size + 1) 113 113 (#[.int .i64 0, .int .i64 0, .slice none 0 0] : Array Value) (0, 0) _ (setRow_heap _ _ _ _ _ _ hrb) Tryz.underlying113 rfl Tryz.sizeG
    refine bodyPost_ret (v := .tuple #[.agg #[.int .i64 0, .int .i64 0, .slice none 0 0], .int .i64 q]) ?_ rfl ?_
    · rw [results_cell_tmp Tryz.results155]
      show ((loadVar 113 ⟨w.heap.size + 1, 0, none⟩).run Tryz.prog _).andThen _ = _
      rw [hr]
      rfl
    exact ⟨_, _, _, _, _, _, rfl, OfG.none HNO.out HQ0.out, (HE0.out.trans HE1.out (by omega) (by simp)).setRow _ _ (.inr (by omega))⟩
  subst t7
  go_upto_region 4 with (first | (go_at_call 150; refine (check03_any s lo po ln lc pn pc _ (HLS.out.keep fun b _ hb => HE0.out.block b hb (by simp)) HHM.out).mono ?_; rw [HCQ.out]; rintro e w1 ⟨rfl, hex⟩; have HE1 := Lib.hid hex; have hz1 := hex.size; clear hex d0 d1 d2 d3 d4 d5 d6 d7 d8 d9 d10 d11 d12; obtain ⟨d0, d1, d2, d3, d4, d5, d6, d7, d8, d9, d10, d11, d12⟩ := HQ.out _ HE1.out) | fail)
  have HT := Lib.hid (checkI_right HCQ.out)
  go_cut [5] from 12 to 20 (fun v wx => OfCut w w0 w1 ln s v wx)
  case first =>
    rename_i J K' hJ hK
    have HJ := Lib.hid hJ
    have HK := Lib.hid hK
    clear hJ hK
    have HGS : Hid (∀ w', Ex w0.heap.size none w0 w' → Ints w' (.slice lo ln lc) s.list) := Lib.hid (fun w' h => sl_ints (HLS.out.1.keep (by decide) fun b _ hb => (h.block b (by omega) (by simp)).trans (HE0.out.block b hb (by simp))))
    have hlm : ln ≤ 1000000 := by have := HT.out.list; have := HLN.out; omega
    go_region_held3 (fun w' => w'.cell? ⟨w.heap.size, 0, none⟩ = some (.int .i64 s.author) ∧ w'.cell? ⟨w.heap.size, 1, none⟩ = some (.int .i64 s.number) ∧ w'.cell? ⟨w.heap.size, 2, none⟩ = some (.string s.prev) ∧ w'.cell? ⟨w.heap.size, 3, none⟩ = some (.int .i64 s.time) ∧ w'.cell? ⟨w.heap.size, 4, none⟩ = some (.int .i64 s.kind) ∧ w'.cell? ⟨w.heap.size, 5, none⟩ = some (.int .i64 s.a) ∧ w'.cell? ⟨w.heap.size, 6, none⟩ = some (.int .i64 s.b) ∧ w'.cell? ⟨w.heap.size, 7, none⟩ = some (.int .i64 s.c) ∧ w'.cell? ⟨w.heap.size, 8, none⟩ = some (.slice lo ln lc) ∧ w'.cell? ⟨w.heap.size, 9, none⟩ = some (.slice po pn pc) ∧ w'.cell? ⟨w.heap.size, 10, none⟩ = some (.string s.body) ∧ w'.cell? ⟨w.heap.size, 11, none⟩ = some (.int .i64 s.key) ∧ w'.cell? ⟨w.heap.size, 12, none⟩ = some (.string s.dig)) (exact HQ.out _ (by (repeat (first | with_reducible exact HE2.out | with_reducible exact HE1.out | with_reducible refine Ex.setCell ?_ _ none _ (.inr (by first | omega | (simp; done) | (simp; omega))) | with_reducible refine Ex.alloc ?_ (by first | omega | (simp; done) | (simp; omega)) _ | with_reducible refine Ex.drew ?_))))
      (first
        | (refine step_appI_any rfl (.tmp 16) (.tmp 18) (by rfl) _ (by rfl) (by (first | exact at_new _ _ _ (by first | omega | (simp; done) | (simp; omega)) | exact (at_old _ _ _ (by first | omega | (simp; done) | (simp; omega))).trans (at_new _ _ _ (by first | omega | (simp; done) | (simp; omega))))) lo ln lc (by rfl) s.list HLN.out.symm hlm (HGS.out _ (by (repeat (first | with_reducible exact HE2.out | with_reducible exact HE1.out | with_reducible refine Ex.setCell ?_ _ none _ (.inr (by first | omega | (simp; done) | (simp; omega))) | with_reducible refine Ex.alloc ?_ (by first | omega | (simp; done) | (simp; omega)) _ | with_reducible refine Ex.drew ?_)))) ?_
           intro ao ac w2 hsl hex hoth
           have HSL := Lib.hid hsl
           have HE2 : Hid (Ex w0.heap.size none w0 w2) := Lib.hid (Ex.trans (by (repeat (first | with_reducible exact HE2.out | with_reducible exact HE1.out | with_reducible refine Ex.setCell ?_ _ none _ (.inr (by first | omega | (simp; done) | (simp; omega))) | with_reducible refine Ex.alloc ?_ (by first | omega | (simp; done) | (simp; omega)) _ | with_reducible refine Ex.drew ?_))) hex (by first | omega | (simp; done) | (simp; omega)) (by simp))
           have hz2 : w0.heap.size ≤ w2.heap.size := HE2.out.size
           have hzx := hex.size
           simp at hzx
           (try (first | (have HBX : Hid (w2.heap[w1.heap.size]? = some (.cells #[.int .i64 0, .int .i64 0, .slice none 0 0] 113 (0, 0))) := Lib.hid ((hoth _ (by first | omega | (simp; done) | (simp; omega)) (by first | omega | (simp; done) | (simp; omega))).trans (by (first | exact at_new _ _ _ (by first | omega | (simp; done) | (simp; omega)) | exact (at_old _ _ _ (by first | omega | (simp; done) | (simp; omega))).trans (at_new _ _ _ (by first | omega | (simp; done) | (simp; omega)))))); have z0 : w2.cell? ⟨w1.heap.size, 0, none⟩ = some (.int .i64 0) := (by rw [cell_of_row _ _ _ _ _ _ HBX.out]; rfl); have z1 : w2.cell? ⟨w1.heap.size, 1, none⟩ = some (.int .i64 0) := (by rw [cell_of_row _ _ _ _ _ _ HBX.out]; rfl); have z2 : w2.cell? ⟨w1.heap.size, 2, none⟩ = some (.slice none 0 0) := (by rw [cell_of_row _ _ _ _ _ _ HBX.out]; rfl); have f0 := row_frozen_g (i := 0) HBX.out; have f1 := row_frozen_g (i := 1) HBX.out; have f2 := row_frozen_g (i := 2) HBX.out) | (have HBX : Hid (w2.heap[w1.heap.size + 1]? = some (.cells #[.int .i64 0, .int .i64 0, .slice none 0 0] 113 (0, 0))) := Lib.hid ((hoth _ (by first | omega | (simp; done) | (simp; omega)) (by first | omega | (simp; done) | (simp; omega))).trans (by (first | exact at_new _ _ _ (by first | omega | (simp; done) | (simp; omega)) | exact (at_old _ _ _ (by first | omega | (simp; done) | (simp; omega))).trans (at_new _ _ _ (by first | omega | (simp; done) | (simp; omega)))))); have z0 : w2.cell? ⟨w1.heap.size + 1, 0, none⟩ = some (.int .i64 0) := (by rw [cell_of_row _ _ _ _ _ _ HBX.out]; rfl); have z1 : w2.cell? ⟨w1.heap.size + 1, 1, none⟩ = some (.int .i64 0) := (by rw [cell_of_row _ _ _ _ _ _ HBX.out]; rfl); have z2 : w2.cell? ⟨w1.heap.size + 1, 2, none⟩ = some (.slice none 0 0) := (by rw [cell_of_row _ _ _ _ _ _ HBX.out]; rfl); have f0 := row_frozen_g (i := 0) HBX.out; have f1 := row_frozen_g (i := 1) HBX.out; have f2 := row_frozen_g (i := 2) HBX.out)))
           clear hsl hex hoth)
        | fail)
    all_goals (
      refine HK.out _ _ (Met.intro (HJ.out _ _ ?_))
      (repeat apply Exists.intro)
      refine ⟨?_, rfl⟩
      (first
        | with_reducible refine of_k1 hz0 hz1 HE2.out ?_ HSL.out ?_
        | with_reducible refine of_k2 hz0 hz1 HE2.out ?_ HBX.out HSL.out ?_)
      all_goals first | rfl | omega | (intro b h; simp at h; omega))
  case rest =>
    obtain ⟨g, ao, ac, rfl, hg, hgl, HG0, HSL0, HE3⟩ := hcut
    obtain ⟨w3, hw3⟩ : ∃ w3 : World, w3 = wc := ⟨_, rfl⟩
    subst hw3
    have hz3 := HE3.out.size
    have HG : Hid (∀ w', Ex w3.heap.size none w3 w' → w'.heap[g]? = some (.cells #[.int .i64 s.author, .int .i64 s.a, .slice ao ln ac] 113 (0, 0))) := Lib.hid (fun w' h => (h.block _ hgl (by simp)).trans HG0.out)
    have HSL3 : Hid (∀ w', Ex w3.heap.size none w3 w' → Sl intRep (fun b => w1.heap.size ≤ b) w' (.slice ao ln ac) s.list) := Lib.hid (fun w' h => (HSL0.out.keep (by decide) fun b _ hb => h.block b hb (by simp)).mono (by decide) fun b h _ => h)
    clear d0 d1 d2 d3 d4 d5 d6 d7 d8 d9 d10 d11 d12
    obtain ⟨d0, d1, d2, d3, d4, d5, d6, d7, d8, d9, d10, d11, d12⟩ := HQ.out _ HE3.out
    cases t0 : sealedB s with
    | false =>
      have HNO : Hid (guardB s = false) := Lib.hid (by simp [guardB, t0])
      go_upto_region 6 with (first | (go_at_call 53; refine (asB (sealed03_any s lo po ln lc pn pc _ (HLS.out.keep fun b _ hb => (HE3.out.block b (by omega) (by simp)).trans (HE0.out.block b hb (by simp))) HT.out.tame) t0).mono ?_; rintro e w4 ⟨rfl, hex⟩; have HE4 := Lib.hid hex; have hz4 := hex.size; have HE04 : Hid (Ex w0.heap.size none w0 w4) := Lib.hid (HE3.out.trans hex (by omega) (by simp)); clear hex d0 d1 d2 d3 d4 d5 d6 d7 d8 d9 d10 d11 d12; obtain ⟨d0, d1, d2, d3, d4, d5, d6, d7, d8, d9, d10, d11, d12⟩ := HQ.out _ HE04.out; obtain ⟨g0, g1, g2⟩ : w4.cell? ⟨g, 0, none⟩ = some (.int .i64 s.author) ∧ w4.cell? ⟨g, 1, none⟩ = some (.int .i64 s.a) ∧ w4.cell? ⟨g, 2, none⟩ = some (.slice ao ln ac) := (by have k := HG.out _ HE4.out; refine ⟨?_, ?_, ?_⟩ <;> (rw [cell_of_row _ _ _ _ _ _ k]; rfl))) | fail)
      have hrb := (HB.out _ HE04.out).2
      go_wp2_with (first | (refine wpList_store_rowTo rfl 113 (.tmp 2) (.tmp 55) rfl rfl (w.heap.size + 1) #[.int .i64 0, .int .i64 0, .slice none 0 0] (by rfl) (by rfl) 113 _ hrb Tryz.sizeG rfl (by simp [Value.oneCell']) ?_) | fail)
      have hr := run_loadVar_row (P := Tryz.prog) _ (w.heap.size + 1) 113 113 (#[.int .i64 0, .int .i64 0, .slice none 0 0] : Array Value) (0, 0) _ (setRow_heap _ _ _ _ _ _ hrb) Tryz.underlying113 rfl Tryz.sizeG
      refine bodyPost_ret (v := .tuple #[.agg #[.int .i64 0, .int .i64 0, .slice none 0 0], .int .i64 47]) ?_ rfl ?_
      · rw [results_cell_tmp Tryz.results155]
        show ((loadVar 113 ⟨w.heap.size + 1, 0, none⟩).run Tryz.prog _).andThen _ = _
        rw [hr]
        rfl
      exact ⟨_, _, _, _, _, _, rfl, OfG.none HNO.out (by decide), (HE0.out.trans HE04.out (by omega) (by simp)).setRow _ _ (.inr (by omega))⟩
    | true =>
      by_cases t1 : s.kind = 12
      case neg =>
        have k1 : (s.kind != 12) = true := by simp [t1]
        have HT1 := Lib.hid t1
        clear t1
        have HNO : Hid (guardB s = false) := Lib.hid (by simp [guardB, HT1.out])
        go_upto_region 6 with (first | (go_at_call 53; refine (asB (sealed03_any s lo po ln lc pn pc _ (HLS.out.keep fun b _ hb => (HE3.out.block b (by omega) (by simp)).trans (HE0.out.block b hb (by simp))) HT.out.tame) t0).mono ?_; rintro e w4 ⟨rfl, hex⟩; have HE4 := Lib.hid hex; have hz4 := hex.size; have HE04 : Hid (Ex w0.heap.size none w0 w4) := Lib.hid (HE3.out.trans hex (by omega) (by simp)); clear hex d0 d1 d2 d3 d4 d5 d6 d7 d8 d9 d10 d11 d12; obtain ⟨d0, d1, d2, d3, d4, d5, d6, d7, d8, d9, d10, d11, d12⟩ := HQ.out _ HE04.out; obtain ⟨g0, g1, g2⟩ : w4.cell? ⟨g, 0, none⟩ = some (.int .i64 s.author) ∧ w4.cell? ⟨g, 1, none⟩ = some (.int .i64 s.a) ∧ w4.cell? ⟨g, 2, none⟩ = some (.slice ao ln ac) := (by have k := HG.out _ HE4.out; refine ⟨?_, ?_, ?_⟩ <;> (rw [cell_of_row _ _ _ _ _ _ k]; rfl))) | fail)
        have hrb := (HB.out _ HE04.out).2
        go_wp2_with (first | (refine wpList_store_rowTo rfl 113 (.tmp 2) (.tmp 55) rfl rfl (w.heap.size + 1) #[.int .i64 0, .int .i64 0, .slice none 0 0] (by rfl) (by rfl) 113 _ hrb Tryz.sizeG rfl (by simp [Value.oneCell']) ?_) | fail)
        have hr := run_loadVar_row (P := Tryz.prog) _ (w.heap.size + 1) 113 113 (#[.int .i64 0, .int .i64 0, .slice none 0 0] : Array Value) (0, 0) _ (setRow_heap _ _ _ _ _ _ hrb) Tryz.underlying113 rfl Tryz.sizeG
        refine bodyPost_ret (v := .tuple #[.agg #[.int .i64 0, .int .i64 0, .slice none 0 0], .int .i64 47]) ?_ rfl ?_
        · rw [results_cell_tmp Tryz.results155]
          show ((loadVar 113 ⟨w.heap.size + 1, 0, none⟩).run Tryz.prog _).andThen _ = _
          rw [hr]
          rfl
        exact ⟨_, _, _, _, _, _, rfl, OfG.none HNO.out (by decide), (HE0.out.trans HE04.out (by omega) (by simp)).setRow _ _ (.inr (by omega))⟩
      have k1 : (s.kind != 12) = false := by simp [t1]
      have HT1 := Lib.hid t1
      clear t1
      by_cases t2 : s.b = 0
      case neg =>
        have kt2 : (s.b != 0) = true := by simp [t2]
        have Ht2 := Lib.hid t2
        clear t2
        have HNO : Hid (guardB s = false) := Lib.hid (by simp [guardB, Ht2.out])
        go_upto_region 6 with (first | (go_at_call 53; refine (asB (sealed03_any s lo po ln lc pn pc _ (HLS.out.keep fun b _ hb => (HE3.out.block b (by omega) (by simp)).trans (HE0.out.block b hb (by simp))) HT.out.tame) t0).mono ?_; rintro e w4 ⟨rfl, hex⟩; have HE4 := Lib.hid hex; have hz4 := hex.size; have HE04 : Hid (Ex w0.heap.size none w0 w4) := Lib.hid (HE3.out.trans hex (by omega) (by simp)); clear hex d0 d1 d2 d3 d4 d5 d6 d7 d8 d9 d10 d11 d12; obtain ⟨d0, d1, d2, d3, d4, d5, d6, d7, d8, d9, d10, d11, d12⟩ := HQ.out _ HE04.out; obtain ⟨g0, g1, g2⟩ : w4.cell? ⟨g, 0, none⟩ = some (.int .i64 s.author) ∧ w4.cell? ⟨g, 1, none⟩ = some (.int .i64 s.a) ∧ w4.cell? ⟨g, 2, none⟩ = some (.slice ao ln ac) := (by have k := HG.out _ HE4.out; refine ⟨?_, ?_, ?_⟩ <;> (rw [cell_of_row _ _ _ _ _ _ k]; rfl))) | fail)
        have hrb := (HB.out _ HE04.out).2
        go_wp2_with (first | (refine wpList_store_rowTo rfl 113 (.tmp 2) (.tmp 55) rfl rfl (w.heap.size + 1) #[.int .i64 0, .int .i64 0, .slice none 0 0] (by rfl) (by rfl) 113 _ hrb Tryz.sizeG rfl (by simp [Value.oneCell']) ?_) | fail)
        have hr := run_loadVar_row (P := Tryz.prog) _ (w.heap.size + 1) 113 113 (#[.int .i64 0, .int .i64 0, .slice none 0 0] : Array Value) (0, 0) _ (setRow_heap _ _ _ _ _ _ hrb) Tryz.underlying113 rfl Tryz.sizeG
        refine bodyPost_ret (v := .tuple #[.agg #[.int .i64 0, .int .i64 0, .slice none 0 0], .int .i64 47]) ?_ rfl ?_
        · rw [results_cell_tmp Tryz.results155]
          show ((loadVar 113 ⟨w.heap.size + 1, 0, none⟩).run Tryz.prog _).andThen _ = _
          rw [hr]
          rfl
        exact ⟨_, _, _, _, _, _, rfl, OfG.none HNO.out (by decide), (HE0.out.trans HE04.out (by omega) (by simp)).setRow _ _ (.inr (by omega))⟩
      have kt2 : (s.b != 0) = false := by simp [t2]
      have Ht2 := Lib.hid t2
      clear t2
      by_cases t3 : s.c = 0
      case neg =>
        have kt3 : (s.c != 0) = true := by simp [t3]
        have Ht3 := Lib.hid t3
        clear t3
        have HNO : Hid (guardB s = false) := Lib.hid (by simp [guardB, Ht3.out])
        go_upto_region 6 with (first | (go_at_call 53; refine (asB (sealed03_any s lo po ln lc pn pc _ (HLS.out.keep fun b _ hb => (HE3.out.block b (by omega) (by simp)).trans (HE0.out.block b hb (by simp))) HT.out.tame) t0).mono ?_; rintro e w4 ⟨rfl, hex⟩; have HE4 := Lib.hid hex; have hz4 := hex.size; have HE04 : Hid (Ex w0.heap.size none w0 w4) := Lib.hid (HE3.out.trans hex (by omega) (by simp)); clear hex d0 d1 d2 d3 d4 d5 d6 d7 d8 d9 d10 d11 d12; obtain ⟨d0, d1, d2, d3, d4, d5, d6, d7, d8, d9, d10, d11, d12⟩ := HQ.out _ HE04.out; obtain ⟨g0, g1, g2⟩ : w4.cell? ⟨g, 0, none⟩ = some (.int .i64 s.author) ∧ w4.cell? ⟨g, 1, none⟩ = some (.int .i64 s.a) ∧ w4.cell? ⟨g, 2, none⟩ = some (.slice ao ln ac) := (by have k := HG.out _ HE4.out; refine ⟨?_, ?_, ?_⟩ <;> (rw [cell_of_row _ _ _ _ _ _ k]; rfl))) | fail)
        have hrb := (HB.out _ HE04.out).2
        go_wp2_with (first | (refine wpList_store_rowTo rfl 113 (.tmp 2) (.tmp 55) rfl rfl (w.heap.size + 1) #[.int .i64 0, .int .i64 0, .slice none 0 0] (by rfl) (by rfl) 113 _ hrb Tryz.sizeG rfl (by simp [Value.oneCell']) ?_) | fail)
        have hr := run_loadVar_row (P := Tryz.prog) _ (w.heap.size + 1) 113 113 (#[.int .i64 0, .int .i64 0, .slice none 0 0] : Array Value) (0, 0) _ (setRow_heap _ _ _ _ _ _ hrb) Tryz.underlying113 rfl Tryz.sizeG
        refine bodyPost_ret (v := .tuple #[.agg #[.int .i64 0, .int .i64 0, .slice none 0 0], .int .i64 47]) ?_ rfl ?_
        · rw [results_cell_tmp Tryz.results155]
          show ((loadVar 113 ⟨w.heap.size + 1, 0, none⟩).run Tryz.prog _).andThen _ = _
          rw [hr]
          rfl
        exact ⟨_, _, _, _, _, _, rfl, OfG.none HNO.out (by decide), (HE0.out.trans HE04.out (by omega) (by simp)).setRow _ _ (.inr (by omega))⟩
      have kt3 : (s.c != 0) = false := by simp [t3]
      have Ht3 := Lib.hid t3
      clear t3
      by_cases t4 : pn = 0
      case neg =>
        have k4 : 0 < pn := by omega
        have k4d : decide (0 < pn) = true := decide_eq_true k4
        have Ht4 := Lib.hid t4
        clear t4
        have HNO : Hid (guardB s = false) := Lib.hid (by simp only [guardB]; rw [show decide (s.pins.length = 0) = false from decide_eq_false (by rw [← HPN.out]; exact Ht4.out)]; simp)
        go_upto_region 6 with (first | (go_at_call 53; refine (asB (sealed03_any s lo po ln lc pn pc _ (HLS.out.keep fun b _ hb => (HE3.out.block b (by omega) (by simp)).trans (HE0.out.block b hb (by simp))) HT.out.tame) t0).mono ?_; rintro e w4 ⟨rfl, hex⟩; have HE4 := Lib.hid hex; have hz4 := hex.size; have HE04 : Hid (Ex w0.heap.size none w0 w4) := Lib.hid (HE3.out.trans hex (by omega) (by simp)); clear hex d0 d1 d2 d3 d4 d5 d6 d7 d8 d9 d10 d11 d12; obtain ⟨d0, d1, d2, d3, d4, d5, d6, d7, d8, d9, d10, d11, d12⟩ := HQ.out _ HE04.out; obtain ⟨g0, g1, g2⟩ : w4.cell? ⟨g, 0, none⟩ = some (.int .i64 s.author) ∧ w4.cell? ⟨g, 1, none⟩ = some (.int .i64 s.a) ∧ w4.cell? ⟨g, 2, none⟩ = some (.slice ao ln ac) := (by have k := HG.out _ HE4.out; refine ⟨?_, ?_, ?_⟩ <;> (rw [cell_of_row _ _ _ _ _ _ k]; rfl))) | fail)
        have hrb := (HB.out _ HE04.out).2
        go_wp2_with (first | (refine wpList_store_rowTo rfl 113 (.tmp 2) (.tmp 55) rfl rfl (w.heap.size + 1) #[.int .i64 0, .int .i64 0, .slice none 0 0] (by rfl) (by rfl) 113 _ hrb Tryz.sizeG rfl (by simp [Value.oneCell']) ?_) | fail)
        have hr := run_loadVar_row (P := Tryz.prog) _ (w.heap.size + 1) 113 113 (#[.int .i64 0, .int .i64 0, .slice none 0 0] : Array Value) (0, 0) _ (setRow_heap _ _ _ _ _ _ hrb) Tryz.underlying113 rfl Tryz.sizeG
        refine bodyPost_ret (v := .tuple #[.agg #[.int .i64 0, .int .i64 0, .slice none 0 0], .int .i64 47]) ?_ rfl ?_
        · rw [results_cell_tmp Tryz.results155]
          show ((loadVar 113 ⟨w.heap.size + 1, 0, none⟩).run Tryz.prog _).andThen _ = _
          rw [hr]
          rfl
        exact ⟨_, _, _, _, _, _, rfl, OfG.none HNO.out (by decide), (HE0.out.trans HE04.out (by omega) (by simp)).setRow _ _ (.inr (by omega))⟩
      have k4d : decide (0 < pn) = false := decide_eq_false (by omega)
      have Ht4 := Lib.hid t4
      clear t4
      by_cases t6 : s.body = ⟨#[]⟩
      case neg =>
        obtain ⟨k6a, k6b, k6c⟩ := nonempty_facts t6
        have Ht6 := Lib.hid t6
        clear t6
        have HNO : Hid (guardB s = false) := Lib.hid (by simp [guardB, Ht6.out])
        go_upto_region 6 with (first | (go_at_call 53; refine (asB (sealed03_any s lo po ln lc pn pc _ (HLS.out.keep fun b _ hb => (HE3.out.block b (by omega) (by simp)).trans (HE0.out.block b hb (by simp))) HT.out.tame) t0).mono ?_; rintro e w4 ⟨rfl, hex⟩; have HE4 := Lib.hid hex; have hz4 := hex.size; have HE04 : Hid (Ex w0.heap.size none w0 w4) := Lib.hid (HE3.out.trans hex (by omega) (by simp)); clear hex d0 d1 d2 d3 d4 d5 d6 d7 d8 d9 d10 d11 d12; obtain ⟨d0, d1, d2, d3, d4, d5, d6, d7, d8, d9, d10, d11, d12⟩ := HQ.out _ HE04.out; obtain ⟨g0, g1, g2⟩ : w4.cell? ⟨g, 0, none⟩ = some (.int .i64 s.author) ∧ w4.cell? ⟨g, 1, none⟩ = some (.int .i64 s.a) ∧ w4.cell? ⟨g, 2, none⟩ = some (.slice ao ln ac) := (by have k := HG.out _ HE4.out; refine ⟨?_, ?_, ?_⟩ <;> (rw [cell_of_row _ _ _ _ _ _ k]; rfl))) | fail)
        have hrb := (HB.out _ HE04.out).2
        go_wp2_with (first | (refine wpList_store_rowTo rfl 113 (.tmp 2) (.tmp 55) rfl rfl (w.heap.size + 1) #[.int .i64 0, .int .i64 0, .slice none 0 0] (by rfl) (by rfl) 113 _ hrb Tryz.sizeG rfl (by simp [Value.oneCell']) ?_) | fail)
        have hr := run_loadVar_row (P := Tryz.prog) _ (w.heap.size + 1) 113 113 (#[.int .i64 0, .int .i64 0, .slice none 0 0] : Array Value) (0, 0) _ (setRow_heap _ _ _ _ _ _ hrb) Tryz.underlying113 rfl Tryz.sizeG
        refine bodyPost_ret (v := .tuple #[.agg #[.int .i64 0, .int .i64 0, .slice none 0 0], .int .i64 47]) ?_ rfl ?_
        · rw [results_cell_tmp Tryz.results155]
          show ((loadVar 113 ⟨w.heap.size + 1, 0, none⟩).run Tryz.prog _).andThen _ = _
          rw [hr]
          rfl
        exact ⟨_, _, _, _, _, _, rfl, OfG.none HNO.out (by decide), (HE0.out.trans HE04.out (by omega) (by simp)).setRow _ _ (.inr (by omega))⟩
      obtain ⟨k6a, k6b, k6c⟩ := empty_facts t6
      have k6 : s.body.toList = [] := by rw [t6]; exact ByteArray.toList_eq _
      have Ht6 := Lib.hid t6
      clear t6
      cases t8 : validG s.author s.a s.list with
      | false =>
        have HNO : Hid (guardB s = false) := Lib.hid (by simp [guardB, t8])
        go_upto_region 6 with (first | (go_at_call 53; refine (asB (sealed03_any s lo po ln lc pn pc _ (HLS.out.keep fun b _ hb => (HE3.out.block b (by omega) (by simp)).trans (HE0.out.block b hb (by simp))) HT.out.tame) t0).mono ?_; rintro e w4 ⟨rfl, hex⟩; have HE4 := Lib.hid hex; have hz4 := hex.size; have HE04 : Hid (Ex w0.heap.size none w0 w4) := Lib.hid (HE3.out.trans hex (by omega) (by simp)); clear hex d0 d1 d2 d3 d4 d5 d6 d7 d8 d9 d10 d11 d12; obtain ⟨d0, d1, d2, d3, d4, d5, d6, d7, d8, d9, d10, d11, d12⟩ := HQ.out _ HE04.out; obtain ⟨g0, g1, g2⟩ : w4.cell? ⟨g, 0, none⟩ = some (.int .i64 s.author) ∧ w4.cell? ⟨g, 1, none⟩ = some (.int .i64 s.a) ∧ w4.cell? ⟨g, 2, none⟩ = some (.slice ao ln ac) := (by have k := HG.out _ HE4.out; refine ⟨?_, ?_, ?_⟩ <;> (rw [cell_of_row _ _ _ _ _ _ k]; rfl))) | (go_at_call 148; refine (asB (refValid34_any s.author s.a ao ln ac s.list _ (sl_ints (HSL3.out _ HE4.out)).at' (by have h := (HSL3.out _ HE4.out); obtain ⟨_, _, e, _⟩ := h; cases e; rfl) (by have h := (HSL3.out _ HE4.out); obtain ⟨_, _, e, _⟩ := h; cases e; have := HT.out.list; omega)) t8).mono ?_; rintro e w5 ⟨rfl, hex⟩; have HE5 := Lib.hid hex; have hz5 := hex.size; have HE35 : Hid (Ex w3.heap.size none w3 w5) := Lib.hid (HE4.out.trans hex (by omega) (by simp)); have HE05 : Hid (Ex w0.heap.size none w0 w5) := Lib.hid (HE3.out.trans HE35.out (by omega) (by simp)); clear hex) | fail)
        have hrb := (HB.out _ HE05.out).2
        go_wp2_with (first | (refine wpList_store_rowTo rfl 113 (.tmp 2) (.tmp 55) rfl rfl (w.heap.size + 1) #[.int .i64 0, .int .i64 0, .slice none 0 0] (by rfl) (by rfl) 113 _ hrb Tryz.sizeG rfl (by simp [Value.oneCell']) ?_) | fail)
        have hr := run_loadVar_row (P := Tryz.prog) _ (w.heap.size + 1) 113 113 (#[.int .i64 0, .int .i64 0, .slice none 0 0] : Array Value) (0, 0) _ (setRow_heap _ _ _ _ _ _ hrb) Tryz.underlying113 rfl Tryz.sizeG
        refine bodyPost_ret (v := .tuple #[.agg #[.int .i64 0, .int .i64 0, .slice none 0 0], .int .i64 47]) ?_ rfl ?_
        · rw [results_cell_tmp Tryz.results155]
          show ((loadVar 113 ⟨w.heap.size + 1, 0, none⟩).run Tryz.prog _).andThen _ = _
          rw [hr]
          rfl
        exact ⟨_, _, _, _, _, _, rfl, OfG.none HNO.out (by decide), (HE0.out.trans HE05.out (by omega) (by simp)).setRow _ _ (.inr (by omega))⟩
      | true =>
        have HYES : Hid (guardB s = true) := Lib.hid (by simp only [guardB, HCQ.out, t0, HT1.out, Ht2.out, Ht3.out, show s.pins.length = 0 from by rw [← HPN.out]; exact Ht4.out, Ht6.out, t8]; rfl)
        go_upto_region 7 with (first | (go_at_call 53; refine (asB (sealed03_any s lo po ln lc pn pc _ (HLS.out.keep fun b _ hb => (HE3.out.block b (by omega) (by simp)).trans (HE0.out.block b hb (by simp))) HT.out.tame) t0).mono ?_; rintro e w4 ⟨rfl, hex⟩; have HE4 := Lib.hid hex; have hz4 := hex.size; have HE04 : Hid (Ex w0.heap.size none w0 w4) := Lib.hid (HE3.out.trans hex (by omega) (by simp)); clear hex d0 d1 d2 d3 d4 d5 d6 d7 d8 d9 d10 d11 d12; obtain ⟨d0, d1, d2, d3, d4, d5, d6, d7, d8, d9, d10, d11, d12⟩ := HQ.out _ HE04.out; obtain ⟨g0, g1, g2⟩ : w4.cell? ⟨g, 0, none⟩ = some (.int .i64 s.author) ∧ w4.cell? ⟨g, 1, none⟩ = some (.int .i64 s.a) ∧ w4.cell? ⟨g, 2, none⟩ = some (.slice ao ln ac) := (by have k := HG.out _ HE4.out; refine ⟨?_, ?_, ?_⟩ <;> (rw [cell_of_row _ _ _ _ _ _ k]; rfl))) | (go_at_call 148; refine (asB (refValid34_any s.author s.a ao ln ac s.list _ (sl_ints (HSL3.out _ HE4.out)).at' (by have h := (HSL3.out _ HE4.out); obtain ⟨_, _, e, _⟩ := h; cases e; rfl) (by have h := (HSL3.out _ HE4.out); obtain ⟨_, _, e, _⟩ := h; cases e; have := HT.out.list; omega)) t8).mono ?_; rintro e w5 ⟨rfl, hex⟩; have HE5 := Lib.hid hex; have hz5 := hex.size; have HE35 : Hid (Ex w3.heap.size none w3 w5) := Lib.hid (HE4.out.trans hex (by omega) (by simp)); have HE05 : Hid (Ex w0.heap.size none w0 w5) := Lib.hid (HE3.out.trans HE35.out (by omega) (by simp)); clear hex) | fail)
        obtain ⟨h0, h1, h2⟩ : w5.cell? ⟨g, 0, none⟩ = some (.int .i64 s.author) ∧ w5.cell? ⟨g, 1, none⟩ = some (.int .i64 s.a) ∧ w5.cell? ⟨g, 2, none⟩ = some (.slice ao ln ac) := (by have k := HG.out _ HE35.out; refine ⟨?_, ?_, ?_⟩ <;> (rw [cell_of_row _ _ _ _ _ _ k]; rfl))
        have hrb := (HB.out _ HE05.out).2
        go_wp2_with (first | (refine wpList_store_rowTo rfl 113 (.tmp 2) (.tmp 56) rfl rfl (w.heap.size + 1) #[.int .i64 s.author, .int .i64 s.a, .slice ao ln ac] (by rfl) (by rfl) 113 _ hrb Tryz.sizeG rfl (by simp [Value.oneCell']) ?_) | fail)
        have hr := run_loadVar_row (P := Tryz.prog) _ (w.heap.size + 1) 113 113 (#[.int .i64 s.author, .int .i64 s.a, .slice ao ln ac] : Array Value) (0, 0) _ (setRow_heap _ _ _ _ _ _ hrb) Tryz.underlying113 rfl Tryz.sizeG
        refine bodyPost_ret (v := .tuple #[.agg #[.int .i64 s.author, .int .i64 s.a, .slice ao ln ac], .int .i64 0]) ?_ rfl ?_
        · rw [results_cell_tmp Tryz.results155]
          show ((loadVar 113 ⟨w.heap.size + 1, 0, none⟩).run Tryz.prog _).andThen _ = _
          rw [hr]
          rfl
        exact ⟨_, _, _, _, _, _, rfl, ⟨fun _ => ⟨rfl, rfl, rfl, ((HSL3.out _ HE35.out).keep (by decide) fun b h _ => setRow_other _ _ _ _ (by omega)).mono (by decide) fun b h _ => by omega⟩, fun e => by rw [HYES.out] at e; cases e⟩, (HE0.out.trans HE05.out (by omega) (by simp)).setRow _ _ (.inr (by omega))⟩
end Go.Proofs.YtaghfcnpnfhacaaGreat

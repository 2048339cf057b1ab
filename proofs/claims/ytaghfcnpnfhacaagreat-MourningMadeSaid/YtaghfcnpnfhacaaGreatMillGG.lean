/- mill.Statement at a draft with a list. No statement of the seat. -/
import Derived.Test.YtaghfcnpnfhacaaGreatMillCutG
namespace Go.Proofs.YtaghfcnpnfhacaaGreat
open Go.RowKit Go.Sort

set_option maxHeartbeats 16000000 in
set_option maxRecDepth 100000 in
theorem millList_any {P : Nat → Prop} (a n t x : Int) (lo : Option Addr) (ln lc : Nat) (gs : List Int) (w : World) (hg : Sl intRep P w (.slice lo ln lc) gs) (h1 : 1 ≤ gs.length) (h2 : gs.length ≤ 10000) (hn : 0 ≤ n ∧ n ≤ 199) :
    Calls Tryz.prog 43 #[.int .i64 a, .int .i64 n, .int .i64 t, .agg #[.int .i64 12, .int .i64 x, .int .i64 0, .int .i64 0, .slice lo ln lc, .slice none 0 0]] w fun e w' => ∃ (s : St) (la : Option Addr) (na ca : Nat) (pa : Option Addr) (np cp : Nat), e = .returned (.agg #[.int .i64 s.author, .int .i64 s.number, .string s.prev, .int .i64 s.time, .int .i64 s.kind, .int .i64 s.a, .int .i64 s.b, .int .i64 s.c, .slice la na ca, .slice pa np cp, .string s.body, .int .i64 s.key, .string s.dig]) ∧ (s.author = a ∧ s.number = n ∧ s.time = t ∧ s.kind = 12 ∧ s.a = x ∧ s.b = 0 ∧ s.c = 0 ∧ s.list = gs ∧ s.pins = [] ∧ s.body = ⟨#[]⟩ ∧ ((s.number = 0 ∧ s.prev = ⟨#[]⟩) ∨ (0 < s.number ∧ s.prev.size = 32)) ∧ sealedB s = true) ∧ Lies (fun b => w.heap.size ≤ b) w' (s, ⟨la, na, ca⟩, ⟨pa, np, cp⟩) ∧ Ex w.heap.size none w w' := by
  have HGL := Lib.hid hg
  have HLN : Hid (ln = gs.length) := by obtain ⟨_, _, e, _⟩ := hg; cases e; exact rfl
  have hln1 : 1 ≤ ln := by have := HLN.out; omega
  have hlnm : ln ≤ 1000000 := by have := HLN.out; omega
  clear hg
  go_enter Tryz.func43, Tryz.ntmps43
  go_upto_region 1 with (fail)
  obtain ⟨w0, hw0⟩ : ∃ w0 : World, w0 = (w.alloc (.cells #[.int .i64 12, .int .i64 x, .int .i64 0, .int .i64 0, .slice lo ln lc, .slice none 0 0] 34)).alloc (.cells #[.int .i64 0, .int .i64 0, .string ⟨#[]⟩, .int .i64 0, .int .i64 0, .int .i64 0, .int .i64 0, .int .i64 0, .slice none 0 0, .slice none 0 0, .string ⟨#[]⟩, .int .i64 0, .string ⟨#[]⟩] 48) := ⟨_, rfl⟩
  have HE0 : Hid (Ex w.heap.size none w w0) := Lib.hid (by rw [hw0]; exact ex_two0 _ _)
  have hz0 : w0.heap.size = w.heap.size + 2 := by rw [hw0]; simp
  have HB : Hid (∀ w', Ex w0.heap.size none w0 w' → w'.heap[w.heap.size]? = some (.cells #[.int .i64 12, .int .i64 x, .int .i64 0, .int .i64 0, .slice lo ln lc, .slice none 0 0] 34 (0, 0)) ∧ w'.heap[w.heap.size + 1]? = some (.cells #[.int .i64 0, .int .i64 0, .string ⟨#[]⟩, .int .i64 0, .int .i64 0, .int .i64 0, .int .i64 0, .int .i64 0, .slice none 0 0, .slice none 0 0, .string ⟨#[]⟩, .int .i64 0, .string ⟨#[]⟩] 48 (0, 0))) := Lib.hid (fun w' h => by
    rw [hw0] at h hz0
    exact ⟨(h.block _ (by omega) (by simp)).trans (heap_alloc2_old _ _ _), (h.block _ (by omega) (by simp)).trans (heap_alloc2_new _ _ _)⟩)
  have HQ : Hid (∀ w', Ex w0.heap.size none w0 w' → w'.cell? ⟨w.heap.size, 0, none⟩ = some (.int .i64 12) ∧ w'.cell? ⟨w.heap.size, 1, none⟩ = some (.int .i64 x) ∧ w'.cell? ⟨w.heap.size, 2, none⟩ = some (.int .i64 0) ∧ w'.cell? ⟨w.heap.size, 3, none⟩ = some (.int .i64 0) ∧ w'.cell? ⟨w.heap.size, 4, none⟩ = some (.slice lo ln lc) ∧ w'.cell? ⟨w.heap.size, 5, none⟩ = some (.slice none 0 0)) := Lib.hid (fun w' h => by
    have k := (HB.out w' h).1
    refine ⟨?_, ?_, ?_, ?_, ?_, ?_⟩ <;> (rw [cell_of_row _ _ _ _ _ _ k]; rfl))
  have HGS : Hid (∀ w', Ex w0.heap.size none w0 w' → Ints w' (.slice lo ln lc) gs) := Lib.hid (fun w' h => sl_ints (HGL.out.keep (by decide) fun b _ hb => (h.block b (by omega) (by simp)).trans (HE0.out.block b hb (by simp))))
  rw [← hw0]
  clear hw0
  obtain ⟨d0, d1, d2, d3, d4, d5⟩ := HQ.out _ (Ex.refl _ _ w0)
  obtain ⟨i2, hi2, _, _, _⟩ := info_parts Tryz.infoPin
  have q2 := fun (ty : TypeId) (w : World) (g : Nat) => app_none 32 164 ty i2 Tryz.underlying32 hi2 w g
  go_cut [9] from 10 to 29 (fun v wx => MillCut w w0 a n t x ln gs v wx)
  case first =>
    rename_i J K' hJ hK
    have HJ := Lib.hid hJ
    have HK := Lib.hid hK
    clear hJ hK
    go_region_held3 (fun w' => w'.cell? ⟨w.heap.size, 0, none⟩ = some (.int .i64 12) ∧ w'.cell? ⟨w.heap.size, 1, none⟩ = some (.int .i64 x) ∧ w'.cell? ⟨w.heap.size, 2, none⟩ = some (.int .i64 0) ∧ w'.cell? ⟨w.heap.size, 3, none⟩ = some (.int .i64 0) ∧ w'.cell? ⟨w.heap.size, 4, none⟩ = some (.slice lo ln lc) ∧ w'.cell? ⟨w.heap.size, 5, none⟩ = some (.slice none 0 0)) (exact HQ.out _ (by (repeat (first | with_reducible exact HE2.out | with_reducible exact Ex.refl _ _ _ | with_reducible refine Ex.setCell ?_ _ none _ (.inr (by first | omega | (simp; done) | (simp; omega))) | with_reducible refine Ex.alloc ?_ (by first | omega | (simp; done) | (simp; omega)) _ | with_reducible refine Ex.drew ?_))))
      (first
        | (refine step_appI_new rfl (.tmp 21) (.tmp 23) (by rfl) (some ⟨_, 0, none⟩) (by rfl) lo ln lc (by rfl) gs HLN.out.symm hln1 hlnm (HGS.out _ (by (repeat (first | with_reducible exact HE2.out | with_reducible exact Ex.refl _ _ _ | with_reducible refine Ex.setCell ?_ _ none _ (.inr (by first | omega | (simp; done) | (simp; omega))) | with_reducible refine Ex.alloc ?_ (by first | omega | (simp; done) | (simp; omega)) _ | with_reducible refine Ex.drew ?_)))) ?_
           intro ao ac w2 hown hex
           have HSL := Lib.hid (iE_slE HLN.out.symm hown)
           have HE2 : Hid (Ex w0.heap.size none w0 w2) := Lib.hid (Ex.trans (by (repeat (first | with_reducible exact Ex.refl _ _ _ | with_reducible refine Ex.setCell ?_ _ none _ (.inr (by first | omega | (simp; done) | (simp; omega))) | with_reducible refine Ex.alloc ?_ (by first | omega | (simp; done) | (simp; omega)) _ | with_reducible refine Ex.drew ?_))) hex (by first | omega | (simp; done) | (simp; omega)) (by simp))
           have hz2 : w0.heap.size ≤ w2.heap.size := HE2.out.size
           have hzx := hex.size
           simp at hzx
           (try (first | (have HBX : Hid (w2.heap[w.heap.size + 2]? = some (.cells #[.int .i64 0, .int .i64 0, .string ⟨#[]⟩, .int .i64 0, .int .i64 0, .int .i64 0, .int .i64 0, .int .i64 0, .slice none 0 0, .slice none 0 0, .string ⟨#[]⟩, .int .i64 0, .string ⟨#[]⟩] 48 (0, 0))) := Lib.hid ((hex.block _ (by first | omega | (simp; done) | (simp; omega)) (by simp)).trans (by (first | exact at_new _ _ _ (by first | omega | (simp; done) | (simp; omega)) | exact (at_old _ _ _ (by first | omega | (simp; done) | (simp; omega))).trans (at_new _ _ _ (by first | omega | (simp; done) | (simp; omega))) | exact (at_old _ _ _ (by first | omega | (simp; done) | (simp; omega))).trans ((at_old _ _ _ (by first | omega | (simp; done) | (simp; omega))).trans (at_new _ _ _ (by first | omega | (simp; done) | (simp; omega))))))); obtain ⟨⟨z0, z1, z2, z3, z4, z5, z6, z7, z8, z9, z10, z11, z12⟩, fz⟩ := st_block (s := { author := 0, number := 0, prev := ⟨#[]⟩, time := 0, kind := 0, a := 0, b := 0, c := 0, list := [], pins := [], body := ⟨#[]⟩, key := 0, dig := ⟨#[]⟩ }) HBX.out; have HBY : Hid ((w2.alloc (.cells #[] 164)).heap[w.heap.size + 2]? = some (.cells #[.int .i64 0, .int .i64 0, .string ⟨#[]⟩, .int .i64 0, .int .i64 0, .int .i64 0, .int .i64 0, .int .i64 0, .slice none 0 0, .slice none 0 0, .string ⟨#[]⟩, .int .i64 0, .string ⟨#[]⟩] 48 (0, 0))) := Lib.hid ((at_old _ _ _ (cell_lt z0)).trans HBX.out); obtain ⟨⟨y0, y1, y2, y3, y4, y5, y6, y7, y8, y9, y10, y11, y12⟩, fy⟩ := st_block (s := { author := 0, number := 0, prev := ⟨#[]⟩, time := 0, kind := 0, a := 0, b := 0, c := 0, list := [], pins := [], body := ⟨#[]⟩, key := 0, dig := ⟨#[]⟩ }) HBY.out; dsimp only at z0 z1 z2 z3 z4 z5 z6 z7 z8 z9 z10 z11 z12 y0 y1 y2 y3 y4 y5 y6 y7 y8 y9 y10 y11 y12) | (have HBX : Hid (w2.heap[w.heap.size + 2 + 1]? = some (.cells #[.int .i64 0, .int .i64 0, .string ⟨#[]⟩, .int .i64 0, .int .i64 0, .int .i64 0, .int .i64 0, .int .i64 0, .slice none 0 0, .slice none 0 0, .string ⟨#[]⟩, .int .i64 0, .string ⟨#[]⟩] 48 (0, 0))) := Lib.hid ((hex.block _ (by first | omega | (simp; done) | (simp; omega)) (by simp)).trans (by (first | exact at_new _ _ _ (by first | omega | (simp; done) | (simp; omega)) | exact (at_old _ _ _ (by first | omega | (simp; done) | (simp; omega))).trans (at_new _ _ _ (by first | omega | (simp; done) | (simp; omega))) | exact (at_old _ _ _ (by first | omega | (simp; done) | (simp; omega))).trans ((at_old _ _ _ (by first | omega | (simp; done) | (simp; omega))).trans (at_new _ _ _ (by first | omega | (simp; done) | (simp; omega))))))); obtain ⟨⟨z0, z1, z2, z3, z4, z5, z6, z7, z8, z9, z10, z11, z12⟩, fz⟩ := st_block (s := { author := 0, number := 0, prev := ⟨#[]⟩, time := 0, kind := 0, a := 0, b := 0, c := 0, list := [], pins := [], body := ⟨#[]⟩, key := 0, dig := ⟨#[]⟩ }) HBX.out; have HBY : Hid ((w2.alloc (.cells #[] 164)).heap[w.heap.size + 2 + 1]? = some (.cells #[.int .i64 0, .int .i64 0, .string ⟨#[]⟩, .int .i64 0, .int .i64 0, .int .i64 0, .int .i64 0, .int .i64 0, .slice none 0 0, .slice none 0 0, .string ⟨#[]⟩, .int .i64 0, .string ⟨#[]⟩] 48 (0, 0))) := Lib.hid ((at_old _ _ _ (cell_lt z0)).trans HBX.out); obtain ⟨⟨y0, y1, y2, y3, y4, y5, y6, y7, y8, y9, y10, y11, y12⟩, fy⟩ := st_block (s := { author := 0, number := 0, prev := ⟨#[]⟩, time := 0, kind := 0, a := 0, b := 0, c := 0, list := [], pins := [], body := ⟨#[]⟩, key := 0, dig := ⟨#[]⟩ }) HBY.out; dsimp only at z0 z1 z2 z3 z4 z5 z6 z7 z8 z9 z10 z11 z12 y0 y1 y2 y3 y4 y5 y6 y7 y8 y9 y10 y11 y12) | (have HBX : Hid (w2.heap[w.heap.size + 2 + 1 + 1]? = some (.cells #[.int .i64 0, .int .i64 0, .string ⟨#[]⟩, .int .i64 0, .int .i64 0, .int .i64 0, .int .i64 0, .int .i64 0, .slice none 0 0, .slice none 0 0, .string ⟨#[]⟩, .int .i64 0, .string ⟨#[]⟩] 48 (0, 0))) := Lib.hid ((hex.block _ (by first | omega | (simp; done) | (simp; omega)) (by simp)).trans (by (first | exact at_new _ _ _ (by first | omega | (simp; done) | (simp; omega)) | exact (at_old _ _ _ (by first | omega | (simp; done) | (simp; omega))).trans (at_new _ _ _ (by first | omega | (simp; done) | (simp; omega))) | exact (at_old _ _ _ (by first | omega | (simp; done) | (simp; omega))).trans ((at_old _ _ _ (by first | omega | (simp; done) | (simp; omega))).trans (at_new _ _ _ (by first | omega | (simp; done) | (simp; omega))))))); obtain ⟨⟨z0, z1, z2, z3, z4, z5, z6, z7, z8, z9, z10, z11, z12⟩, fz⟩ := st_block (s := { author := 0, number := 0, prev := ⟨#[]⟩, time := 0, kind := 0, a := 0, b := 0, c := 0, list := [], pins := [], body := ⟨#[]⟩, key := 0, dig := ⟨#[]⟩ }) HBX.out; have HBY : Hid ((w2.alloc (.cells #[] 164)).heap[w.heap.size + 2 + 1 + 1]? = some (.cells #[.int .i64 0, .int .i64 0, .string ⟨#[]⟩, .int .i64 0, .int .i64 0, .int .i64 0, .int .i64 0, .int .i64 0, .slice none 0 0, .slice none 0 0, .string ⟨#[]⟩, .int .i64 0, .string ⟨#[]⟩] 48 (0, 0))) := Lib.hid ((at_old _ _ _ (cell_lt z0)).trans HBX.out); obtain ⟨⟨y0, y1, y2, y3, y4, y5, y6, y7, y8, y9, y10, y11, y12⟩, fy⟩ := st_block (s := { author := 0, number := 0, prev := ⟨#[]⟩, time := 0, kind := 0, a := 0, b := 0, c := 0, list := [], pins := [], body := ⟨#[]⟩, key := 0, dig := ⟨#[]⟩ }) HBY.out; dsimp only at z0 z1 z2 z3 z4 z5 z6 z7 z8 z9 z10 z11 z12 y0 y1 y2 y3 y4 y5 y6 y7 y8 y9 y10 y11 y12)))
           clear hown hex)
        | fail)
    all_goals (
      refine HK.out _ _ (Met.intro (HJ.out _ _ ?_))
      (repeat apply Exists.intro)
      refine ⟨?_, rfl⟩
      (first
        | with_reducible refine mill_k1a hz0 HE2.out ?_ HSL.out
        | with_reducible refine mill_k1b hz0 HE2.out ?_ HSL.out
        | with_reducible refine mill_k1c hz0 HE2.out ?_ HSL.out
        | with_reducible refine mill_k2 HE2.out hz0 ?_ HBX.out HSL.out ?_
        | with_reducible refine mill_k3 HE2.out hz0 ?_ HBY.out HSL.out ?_)
      all_goals first | rfl | omega | (intro b h; simp at h; omega))
  case rest =>
    clear d0 d1 d2 d3 d4 d5 q2 hi2
    obtain ⟨g, la, pa, cl, cp, rfl, hg, HG, HSC, HEX⟩ := hcut
    have hzc := HEX.out.size
    have HRC : Hid (wc.heap[w.heap.size + 1]? = some (.cells #[.int .i64 0, .int .i64 0, .string ⟨#[]⟩, .int .i64 0, .int .i64 0, .int .i64 0, .int .i64 0, .int .i64 0, .slice none 0 0, .slice none 0 0, .string ⟨#[]⟩, .int .i64 0, .string ⟨#[]⟩] 48 (0, 0))) := Lib.hid (HB.out wc HEX.out).2
    have HEW : Hid (Ex w.heap.size none w wc) := Lib.hid (HE0.out.trans HEX.out (by omega) (by simp))
    have hgc : g < wc.heap.size := (Array.getElem?_eq_some_iff.1 HG.out).1
    by_cases n0 : 0 < n
    · have n0d : decide (0 < n) = true := decide_eq_true n0
      obtain ⟨i0, hi, hz0', hz1', hz2'⟩ := info_parts Tryz.infoB
      go_upto_region 4 with (first
        | (at_make
           refine wpList_make_full _ rfl (.const (.int .i64 32)) (.const (.int .i64 32)) _ rfl wc.heap.size 5 i0 _ 1 Tryz.underlying51 hi hz0' hz1' .i64 .i64 _ _ 32 rfl rfl rfl rfl (by rw [hz2']; omega) (by unfold maxLen; omega) (Nat.le_refl _) ?_
           intro w1 hown1 hgr1
           have HO1 : Hid (OwnB w1 wc.heap.size (some ⟨wc.heap.size, 0, none⟩) 32 (List.replicate 32 0)) := Lib.hid (by
             rw [made32] at hown1; exact hown1)
           have HE1 : Hid (Ex wc.heap.size none wc w1) := Lib.hid ((Ex.refl _ _ wc).grown hgr1 (Nat.le_refl _) (by simp))
           have HG1 : Hid (w1.heap[g]? = some (.cells #[.int .i64 a, .int .i64 n, .string ⟨#[]⟩, .int .i64 t, .int .i64 12, .int .i64 x, .int .i64 0, .int .i64 0, .slice la ln cl, .slice pa 0 cp, .string ⟨#[]⟩, .int .i64 0, .string ⟨#[]⟩] 48 (0, 0))) := Lib.hid ((HE1.out.block _ hgc (by simp)).trans HG.out)
           have HR1 : Hid (w1.heap[w.heap.size + 1]? = some (.cells #[.int .i64 0, .int .i64 0, .string ⟨#[]⟩, .int .i64 0, .int .i64 0, .int .i64 0, .int .i64 0, .int .i64 0, .slice none 0 0, .slice none 0 0, .string ⟨#[]⟩, .int .i64 0, .string ⟨#[]⟩] 48 (0, 0))) := Lib.hid ((HE1.out.block _ (by omega) (by simp)).trans HRC.out)
           have HS1 : Hid (Sl intRep (fun b => b ≠ g) w1 (.slice la ln cl) gs) := Lib.hid (HSC.out.keep (by decide) fun b _ hb => HE1.out.block b hb (by simp))
           have hz1 : wc.heap.size ≤ w1.heap.size := HE1.out.size
           have hsl : Sl byRep (fun _ => True) w1 (.slice (some ⟨wc.heap.size, 0, none⟩) 32 32) (List.replicate 32 (0 : UInt8)) := ⟨_, 32, rfl, val_sl trivial (by simpa using OwnE.holds byE_len HO1.out)⟩
           obtain ⟨z, hz⟩ : ∃ z, z = strOf (List.replicate 32 (0 : UInt8)) := ⟨_, rfl⟩
           have HZ : Hid (z.size = 32) := Lib.hid (by rw [hz, strOf_size]; rfl)
           have hconv := run_strOf (P := Tryz.prog) (src := 51) (dst := 9) hsl Tryz.underlying51 Tryz.underlying5 Tryz.underlying9
           rw [← hz] at hconv
           clear hown1 hgr1 hsl hz
           obtain ⟨⟨d0, d1, d2, d3, d4, d5, d6, d7, d8, d9, d10, d11, d12⟩, fz⟩ := st_block (s := ({ author := a, number := n, prev := ⟨#[]⟩, time := t, kind := 12, a := x, b := 0, c := 0, list := gs, pins := [], body := ⟨#[]⟩, key := 0, dig := ⟨#[]⟩ } : St)) HG1.out)
        | fail)
      have hz32 := HZ.out
      clear hconv d0 d1 d2 d3 d4 d5 d6 d7 d8 d9 d10 d11 d12 fz
      obtain ⟨w2, hw2⟩ : ∃ w2 : World, w2 = w1.setCell ⟨g, 2, none⟩ (.string z) := ⟨_, rfl⟩
      have HG2 : Hid (w2.heap[g]? = some (.cells #[.int .i64 a, .int .i64 n, .string z, .int .i64 t, .int .i64 12, .int .i64 x, .int .i64 0, .int .i64 0, .slice la ln cl, .slice pa 0 cp, .string ⟨#[]⟩, .int .i64 0, .string ⟨#[]⟩] 48 (0, 0))) := Lib.hid (by rw [hw2, heap_setCell_same _ _ _ _ _ _ HG1.out]; rfl)
      have HR2 : Hid (w2.heap[w.heap.size + 1]? = some (.cells #[.int .i64 0, .int .i64 0, .string ⟨#[]⟩, .int .i64 0, .int .i64 0, .int .i64 0, .int .i64 0, .int .i64 0, .slice none 0 0, .slice none 0 0, .string ⟨#[]⟩, .int .i64 0, .string ⟨#[]⟩] 48 (0, 0))) := Lib.hid (by rw [hw2]; exact set_far (by omega) HR1.out)
      have HS2 : Hid (Sl intRep (fun b => b ≠ g) w2 (.slice la ln cl) gs) := Lib.hid (by rw [hw2]; exact HS1.out.keep (by decide) fun b h _ => set_far h rfl)
      have HE2 : Hid (Ex w.heap.size none w w2) := Lib.hid (by
        rw [hw2]
        refine Ex.setCell ?_ _ none _ (Or.inr (by omega))
        exact HEW.out.trans HE1.out (by omega) (by simp))
      have hz2 : w2.heap.size = w1.heap.size := by rw [hw2]; simp
      rw [← hw2]
      clear hw2
      obtain ⟨⟨d0, d1, d2, d3, d4, d5, d6, d7, d8, d9, d10, d11, d12⟩, fz⟩ := st_block (s := ({ author := a, number := n, prev := z, time := t, kind := 12, a := x, b := 0, c := 0, list := gs, pins := [], body := ⟨#[]⟩, key := 0, dig := ⟨#[]⟩ } : St)) HG2.out
      go_wp2_with fail
      refine (seal03_any ({ author := a, number := n, prev := z, time := t, kind := 12, a := x, b := 0, c := 0, list := gs, pins := [], body := ⟨#[]⟩, key := 0, dig := ⟨#[]⟩ } : St) la pa ln cl 0 cp w2 ⟨HS2.out, ⟨pa, cp, rfl, SlAt.nil _ _ _⟩⟩ ⟨by show gs.length ≤ _; omega, Nat.zero_le _, by show z.size ≤ _; omega, Nat.zero_le _, Nat.zero_le _⟩).mono ?_
      rintro e w5 ⟨lb, nb, cb, pb, mb, db, rfl, hl5, hex5⟩
      have HL5 := Lib.hid hl5
      have HE5 : Hid (Ex w.heap.size none w w5) := Lib.hid (HE2.out.trans hex5 HE2.out.size (by simp))
      have HR5 : Hid (w5.heap[w.heap.size + 1]? = some (.cells #[.int .i64 0, .int .i64 0, .string ⟨#[]⟩, .int .i64 0, .int .i64 0, .int .i64 0, .int .i64 0, .int .i64 0, .slice none 0 0, .slice none 0 0, .string ⟨#[]⟩, .int .i64 0, .string ⟨#[]⟩] 48 (0, 0))) := Lib.hid ((hex5.block _ (by omega) (by simp)).trans HR2.out)
      clear hl5 hex5 d0 d1 d2 d3 d4 d5 d6 d7 d8 d9 d10 d11 d12 fz
      go_wp2_with (refine wpList_store_rowTo rfl 48 (.tmp 8) (.tmp 36) rfl rfl (w.heap.size + 1) #[.int .i64 a, .int .i64 n, .string z, .int .i64 t, .int .i64 12, .int .i64 x, .int .i64 0, .int .i64 0, .slice lb nb cb, .slice pb mb db, .string ⟨#[]⟩, .int .i64 a, .string (sha (stB ({ author := a, number := n, prev := z, time := t, kind := 12, a := x, b := 0, c := 0, list := gs, pins := [], body := ⟨#[]⟩, key := 0, dig := ⟨#[]⟩ } : St)))] (by rfl) (by rfl) 48 #[.int .i64 0, .int .i64 0, .string ⟨#[]⟩, .int .i64 0, .int .i64 0, .int .i64 0, .int .i64 0, .int .i64 0, .slice none 0 0, .slice none 0 0, .string ⟨#[]⟩, .int .i64 0, .string ⟨#[]⟩] HR5.out Tryz.sizeSt rfl (by simp [Value.oneCell']) ?_)
      obtain ⟨w6, hw6⟩ : ∃ w6 : World, w6 = w5.setRow (w.heap.size + 1) #[.int .i64 a, .int .i64 n, .string z, .int .i64 t, .int .i64 12, .int .i64 x, .int .i64 0, .int .i64 0, .slice lb nb cb, .slice pb mb db, .string ⟨#[]⟩, .int .i64 a, .string (sha (stB ({ author := a, number := n, prev := z, time := t, kind := 12, a := x, b := 0, c := 0, list := gs, pins := [], body := ⟨#[]⟩, key := 0, dig := ⟨#[]⟩ } : St)))] := ⟨_, rfl⟩
      have HE6 : Hid (Ex w.heap.size none w w6) := Lib.hid (by rw [hw6]; exact HE5.out.setRow _ _ (.inr (by omega)))
      have HL6 : Hid (Lies (fun b => w2.heap.size ≤ b) w6 (sealS ({ author := a, number := n, prev := z, time := t, kind := 12, a := x, b := 0, c := 0, list := gs, pins := [], body := ⟨#[]⟩, key := 0, dig := ⟨#[]⟩ } : St), ⟨lb, nb, cb⟩, ⟨pb, mb, db⟩)) := Lib.hid (by
        rw [hw6]
        exact HL5.out.keep fun b h1 _ => setRow_other _ _ _ _ (by omega))
      have hb6 : w6.heap[w.heap.size + 1]? = some (.cells #[.int .i64 a, .int .i64 n, .string z, .int .i64 t, .int .i64 12, .int .i64 x, .int .i64 0, .int .i64 0, .slice lb nb cb, .slice pb mb db, .string ⟨#[]⟩, .int .i64 a, .string (sha (stB ({ author := a, number := n, prev := z, time := t, kind := 12, a := x, b := 0, c := 0, list := gs, pins := [], body := ⟨#[]⟩, key := 0, dig := ⟨#[]⟩ } : St)))] 48 (0, 0)) := by rw [hw6]; exact setRow_heap _ _ _ _ _ _ HR5.out
      rw [← hw6]
      clear hw6
      obtain ⟨⟨d0, d1, d2, d3, d4, d5, d6, d7, d8, d9, d10, d11, d12⟩, fz⟩ := st_block (s := sealS ({ author := a, number := n, prev := z, time := t, kind := 12, a := x, b := 0, c := 0, list := gs, pins := [], body := ⟨#[]⟩, key := 0, dig := ⟨#[]⟩ } : St)) hb6
      refine bodyPost_ret (v := .agg #[.int .i64 a, .int .i64 n, .string z, .int .i64 t, .int .i64 12, .int .i64 x, .int .i64 0, .int .i64 0, .slice lb nb cb, .slice pb mb db, .string ⟨#[]⟩, .int .i64 a, .string (sha (stB ({ author := a, number := n, prev := z, time := t, kind := 12, a := x, b := 0, c := 0, list := gs, pins := [], body := ⟨#[]⟩, key := 0, dig := ⟨#[]⟩ } : St)))]) (by simp [results, Tryz.results43, go_sem, d0, d1, d2, d3, d4, d5, d6, d7, d8, d9, d10, d11, d12, sealS]) rfl ?_
      exact ⟨sealS ({ author := a, number := n, prev := z, time := t, kind := 12, a := x, b := 0, c := 0, list := gs, pins := [], body := ⟨#[]⟩, key := 0, dig := ⟨#[]⟩ } : St), lb, nb, cb, pb, mb, db, rfl, ⟨rfl, rfl, rfl, rfl, rfl, rfl, rfl, rfl, rfl, rfl, .inr ⟨n0, hz32⟩, sealS_sealed _⟩, HL6.out.mono fun b h _ => by omega, HE6.out⟩
    · have n0d : decide (0 < n) = false := decide_eq_false n0
      have HN00 : Hid (n = 0) := Lib.hid (by omega)
      clear n0
      obtain ⟨⟨d0, d1, d2, d3, d4, d5, d6, d7, d8, d9, d10, d11, d12⟩, fz⟩ := st_block (s := ({ author := a, number := n, prev := ⟨#[]⟩, time := t, kind := 12, a := x, b := 0, c := 0, list := gs, pins := [], body := ⟨#[]⟩, key := 0, dig := ⟨#[]⟩ } : St)) HG.out
      go_wp2_with fail
      refine (seal03_any ({ author := a, number := n, prev := ⟨#[]⟩, time := t, kind := 12, a := x, b := 0, c := 0, list := gs, pins := [], body := ⟨#[]⟩, key := 0, dig := ⟨#[]⟩ } : St) la pa ln cl 0 cp wc ⟨HSC.out, ⟨pa, cp, rfl, SlAt.nil _ _ _⟩⟩ ⟨by show gs.length ≤ _; omega, Nat.zero_le _, by show (0 : Nat) ≤ _; omega, Nat.zero_le _, Nat.zero_le _⟩).mono ?_
      rintro e w5 ⟨lb, nb, cb, pb, mb, db, rfl, hl5, hex5⟩
      have HL5 := Lib.hid hl5
      have HE5 : Hid (Ex w.heap.size none w w5) := Lib.hid (HEW.out.trans hex5 HEW.out.size (by simp))
      have HR5 : Hid (w5.heap[w.heap.size + 1]? = some (.cells #[.int .i64 0, .int .i64 0, .string ⟨#[]⟩, .int .i64 0, .int .i64 0, .int .i64 0, .int .i64 0, .int .i64 0, .slice none 0 0, .slice none 0 0, .string ⟨#[]⟩, .int .i64 0, .string ⟨#[]⟩] 48 (0, 0))) := Lib.hid ((hex5.block _ (by omega) (by simp)).trans HRC.out)
      clear hl5 hex5 d0 d1 d2 d3 d4 d5 d6 d7 d8 d9 d10 d11 d12 fz
      go_wp2_with (refine wpList_store_rowTo rfl 48 (.tmp 8) (.tmp 36) rfl rfl (w.heap.size + 1) #[.int .i64 a, .int .i64 n, .string ⟨#[]⟩, .int .i64 t, .int .i64 12, .int .i64 x, .int .i64 0, .int .i64 0, .slice lb nb cb, .slice pb mb db, .string ⟨#[]⟩, .int .i64 a, .string (sha (stB ({ author := a, number := n, prev := ⟨#[]⟩, time := t, kind := 12, a := x, b := 0, c := 0, list := gs, pins := [], body := ⟨#[]⟩, key := 0, dig := ⟨#[]⟩ } : St)))] (by rfl) (by rfl) 48 #[.int .i64 0, .int .i64 0, .string ⟨#[]⟩, .int .i64 0, .int .i64 0, .int .i64 0, .int .i64 0, .int .i64 0, .slice none 0 0, .slice none 0 0, .string ⟨#[]⟩, .int .i64 0, .string ⟨#[]⟩] HR5.out Tryz.sizeSt rfl (by simp [Value.oneCell']) ?_)
      obtain ⟨w6, hw6⟩ : ∃ w6 : World, w6 = w5.setRow (w.heap.size + 1) #[.int .i64 a, .int .i64 n, .string ⟨#[]⟩, .int .i64 t, .int .i64 12, .int .i64 x, .int .i64 0, .int .i64 0, .slice lb nb cb, .slice pb mb db, .string ⟨#[]⟩, .int .i64 a, .string (sha (stB ({ author := a, number := n, prev := ⟨#[]⟩, time := t, kind := 12, a := x, b := 0, c := 0, list := gs, pins := [], body := ⟨#[]⟩, key := 0, dig := ⟨#[]⟩ } : St)))] := ⟨_, rfl⟩
      have HE6 : Hid (Ex w.heap.size none w w6) := Lib.hid (by rw [hw6]; exact HE5.out.setRow _ _ (.inr (by omega)))
      have HL6 : Hid (Lies (fun b => wc.heap.size ≤ b) w6 (sealS ({ author := a, number := n, prev := ⟨#[]⟩, time := t, kind := 12, a := x, b := 0, c := 0, list := gs, pins := [], body := ⟨#[]⟩, key := 0, dig := ⟨#[]⟩ } : St), ⟨lb, nb, cb⟩, ⟨pb, mb, db⟩)) := Lib.hid (by
        rw [hw6]
        exact HL5.out.keep fun b h1 _ => setRow_other _ _ _ _ (by omega))
      have hb6 : w6.heap[w.heap.size + 1]? = some (.cells #[.int .i64 a, .int .i64 n, .string ⟨#[]⟩, .int .i64 t, .int .i64 12, .int .i64 x, .int .i64 0, .int .i64 0, .slice lb nb cb, .slice pb mb db, .string ⟨#[]⟩, .int .i64 a, .string (sha (stB ({ author := a, number := n, prev := ⟨#[]⟩, time := t, kind := 12, a := x, b := 0, c := 0, list := gs, pins := [], body := ⟨#[]⟩, key := 0, dig := ⟨#[]⟩ } : St)))] 48 (0, 0)) := by rw [hw6]; exact setRow_heap _ _ _ _ _ _ HR5.out
      rw [← hw6]
      clear hw6
      obtain ⟨⟨d0, d1, d2, d3, d4, d5, d6, d7, d8, d9, d10, d11, d12⟩, fz⟩ := st_block (s := sealS ({ author := a, number := n, prev := ⟨#[]⟩, time := t, kind := 12, a := x, b := 0, c := 0, list := gs, pins := [], body := ⟨#[]⟩, key := 0, dig := ⟨#[]⟩ } : St)) hb6
      refine bodyPost_ret (v := .agg #[.int .i64 a, .int .i64 n, .string ⟨#[]⟩, .int .i64 t, .int .i64 12, .int .i64 x, .int .i64 0, .int .i64 0, .slice lb nb cb, .slice pb mb db, .string ⟨#[]⟩, .int .i64 a, .string (sha (stB ({ author := a, number := n, prev := ⟨#[]⟩, time := t, kind := 12, a := x, b := 0, c := 0, list := gs, pins := [], body := ⟨#[]⟩, key := 0, dig := ⟨#[]⟩ } : St)))]) (by simp [results, Tryz.results43, go_sem, d0, d1, d2, d3, d4, d5, d6, d7, d8, d9, d10, d11, d12, sealS]) rfl ?_
      exact ⟨sealS ({ author := a, number := n, prev := ⟨#[]⟩, time := t, kind := 12, a := x, b := 0, c := 0, list := gs, pins := [], body := ⟨#[]⟩, key := 0, dig := ⟨#[]⟩ } : St), lb, nb, cb, pb, mb, db, rfl, ⟨rfl, rfl, rfl, rfl, rfl, rfl, rfl, rfl, rfl, rfl, .inl ⟨HN00.out, rfl⟩, sealS_sealed _⟩, HL6.out.mono fun b h _ => by omega, HE6.out⟩
end Go.Proofs.YtaghfcnpnfhacaaGreat

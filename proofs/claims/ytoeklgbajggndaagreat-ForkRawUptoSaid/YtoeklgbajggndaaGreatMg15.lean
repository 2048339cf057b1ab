/- trustflow/trustflowref06.Encode: a contract. No statement of the seat. | trustflow/fork.Encode: a contract. No statement of the seat. | statement.Decode: a contract. No statement of the seat. | A text turned into bytes; what is read off evidence's bytes, plain. No statement of the seat. -/
import Derived.Test.YtoeklgbajggndaaGreatMg13
import Derived.Test.YtoeklgbajggndaaGreatMg12
import Derived.Deep.RegionHeld3
import Derived.Test.YtoeklgbajggndaaGreatChkFPG
import Derived.Test.YtoeklgbajggndaaGreatMg09
import Derived.Test.YtoeklgbajggndaaGreatCheckPG
import Derived.Test.YtoeklgbajggndaaGreatMg11
import Derived.Test.YtoeklgbajggndaaGreatNext04G
import Derived.Defers
import Derived.Lib.ConvBytes
namespace Go.Proofs.YtoeklgbajggndaaGreat
open Go.RowKit Go.Sort

/-- The bytes of evidence that is right; else none. -/
def encF (s t : St) : List UInt8 := if forkCheckI s t = 0 then (([] ++ int8 (strOf (encS s)).size ++ strL (strOf (encS s))) ++ int8 (strOf (encS t)).size ++ strL (strOf (encS t))) else []
theorem fcI_zero {s t : St} (h : forkCheckI s t = 0) : checkI s = 0 ∧ checkI t = 0 ∧ sealedB s = true ∧ sealedB t = true := by
  by_cases h1 : checkI s = 0
  · by_cases h2 : checkI t = 0
    · cases h3 : sealedB s with
      | true =>
        cases h4 : sealedB t with
        | true => exact ⟨h1, h2, rfl, rfl⟩
        | false => rw [fcI_3 h1 h2 (.inr h4)] at h; exact absurd h (by decide)
      | false => rw [fcI_3 h1 h2 (.inl h3)] at h; exact absurd h (by decide)
    · rw [fcI_2 h1 h2] at h; exact absurd h h2
  · rw [fcI_1 h1] at h; exact absurd h h1
theorem encS_small {s : St} (h : checkI s = 0) (hs : sealedB s = true) : (encS s).length ≤ 200000 := by
  have hr := checkI_right h
  have hd : s.dig.size = 32 := by rw [sealed_dig hs, sha_size]
  have h1 := hr.list
  have h2 := hr.pins
  have h3 := hr.body
  have h4 := pinsL_len s.pins fun p hp => by have := pins_dig hr.pinsB p hp; omega
  have h5 : s.prev.size ≤ 32 := by
    have h0 := hr.number
    by_cases h1 : s.number = 0
    · rw [hr.prev0 h1]; exact Nat.zero_le _
    · rw [hr.prev1 (by omega)]; omega
  rw [encS_eq]
  simp only [headB, tailB, List.length_append, int8_len, strL_len, intsB_len]
  omega
attribute [local go_sem ↓] rowLoad_fork
set_option maxHeartbeats 8000000 in
set_option maxRecDepth 100000 in
theorem encF3_any {P : Nat → Prop} (s t : St) (lo po : Option Addr) (ln lc pn pc : Nat) (lb pb : Option Addr) (nb cb mp cq : Nat) (w : World) (hs : Lies P w (s, ⟨lo, ln, lc⟩, ⟨po, pn, pc⟩)) (ht : Lies P w (t, ⟨lb, nb, cb⟩, ⟨pb, mp, cq⟩)) (hts : Tame s) (htt : Tame t) :
    Calls Tryz.prog 20 #[.agg (rFk s lo ln lc po pn pc t lb nb cb pb mp cq)] w fun e w' => ∃ u, e = .returned (.tuple #[u, .int .i64 (forkCheckI s t)]) ∧ SlC (fun b => w.heap.size ≤ b) w' u (encF s t) ∧ Ex w.heap.size none w w' := by
  obtain ⟨w0, hw0⟩ : ∃ w0 : World, w0 = w.alloc (.cells (rFk s lo ln lc po pn pc t lb nb cb pb mp cq) 29) := ⟨_, rfl⟩
  have hz0 : w.heap.size < w0.heap.size := by rw [hw0]; simp
  have HE0 : Hid (Ex w.heap.size none w w0) := by rw [hw0]; exact Ex.new w _
  have HB0 : Hid (∀ w', Ex w0.heap.size none w0 w' → w'.heap[w.heap.size]? = some (.cells (rFk s lo ln lc po pn pc t lb nb cb pb mp cq) 29 (0, 0))) := Lib.hid (fun w' h => (h.block w.heap.size hz0 (by simp)).trans (by rw [hw0]; exact heap_alloc_new w _))
  have HQ : Hid (∀ w', Ex w0.heap.size none w0 w' → w'.cell? ⟨w.heap.size, 0, none⟩ = some (.int .i64 s.author) ∧ w'.cell? ⟨w.heap.size, 1, none⟩ = some (.int .i64 s.number) ∧ w'.cell? ⟨w.heap.size, 2, none⟩ = some (.string s.prev) ∧ w'.cell? ⟨w.heap.size, 3, none⟩ = some (.int .i64 s.time) ∧ w'.cell? ⟨w.heap.size, 4, none⟩ = some (.int .i64 s.kind) ∧ w'.cell? ⟨w.heap.size, 5, none⟩ = some (.int .i64 s.a) ∧ w'.cell? ⟨w.heap.size, 6, none⟩ = some (.int .i64 s.b) ∧ w'.cell? ⟨w.heap.size, 7, none⟩ = some (.int .i64 s.c) ∧ w'.cell? ⟨w.heap.size, 8, none⟩ = some (.slice lo ln lc) ∧ w'.cell? ⟨w.heap.size, 9, none⟩ = some (.slice po pn pc) ∧ w'.cell? ⟨w.heap.size, 10, none⟩ = some (.string s.body) ∧ w'.cell? ⟨w.heap.size, 11, none⟩ = some (.int .i64 s.key) ∧ w'.cell? ⟨w.heap.size, 12, none⟩ = some (.string s.dig) ∧ w'.cell? ⟨w.heap.size, 13, none⟩ = some (.int .i64 t.author) ∧ w'.cell? ⟨w.heap.size, 14, none⟩ = some (.int .i64 t.number) ∧ w'.cell? ⟨w.heap.size, 15, none⟩ = some (.string t.prev) ∧ w'.cell? ⟨w.heap.size, 16, none⟩ = some (.int .i64 t.time) ∧ w'.cell? ⟨w.heap.size, 17, none⟩ = some (.int .i64 t.kind) ∧ w'.cell? ⟨w.heap.size, 18, none⟩ = some (.int .i64 t.a) ∧ w'.cell? ⟨w.heap.size, 19, none⟩ = some (.int .i64 t.b) ∧ w'.cell? ⟨w.heap.size, 20, none⟩ = some (.int .i64 t.c) ∧ w'.cell? ⟨w.heap.size, 21, none⟩ = some (.slice lb nb cb) ∧ w'.cell? ⟨w.heap.size, 22, none⟩ = some (.slice pb mp cq) ∧ w'.cell? ⟨w.heap.size, 23, none⟩ = some (.string t.body) ∧ w'.cell? ⟨w.heap.size, 24, none⟩ = some (.int .i64 t.key) ∧ w'.cell? ⟨w.heap.size, 25, none⟩ = some (.string t.dig)) := Lib.hid (fun w' h => by
    have hb := HB0.out w' h
    exact ⟨(cell_of_row _ _ 0 _ _ _ hb), (cell_of_row _ _ 1 _ _ _ hb), (cell_of_row _ _ 2 _ _ _ hb), (cell_of_row _ _ 3 _ _ _ hb), (cell_of_row _ _ 4 _ _ _ hb), (cell_of_row _ _ 5 _ _ _ hb), (cell_of_row _ _ 6 _ _ _ hb), (cell_of_row _ _ 7 _ _ _ hb), (cell_of_row _ _ 8 _ _ _ hb), (cell_of_row _ _ 9 _ _ _ hb), (cell_of_row _ _ 10 _ _ _ hb), (cell_of_row _ _ 11 _ _ _ hb), (cell_of_row _ _ 12 _ _ _ hb), (cell_of_row _ _ 13 _ _ _ hb), (cell_of_row _ _ 14 _ _ _ hb), (cell_of_row _ _ 15 _ _ _ hb), (cell_of_row _ _ 16 _ _ _ hb), (cell_of_row _ _ 17 _ _ _ hb), (cell_of_row _ _ 18 _ _ _ hb), (cell_of_row _ _ 19 _ _ _ hb), (cell_of_row _ _ 20 _ _ _ hb), (cell_of_row _ _ 21 _ _ _ hb), (cell_of_row _ _ 22 _ _ _ hb), (cell_of_row _ _ 23 _ _ _ hb), (cell_of_row _ _ 24 _ _ _ hb), (cell_of_row _ _ 25 _ _ _ hb)⟩)
  have HLX : Hid (∀ w', Ex w0.heap.size none w0 w' → Lies P w' (s, ⟨lo, ln, lc⟩, ⟨po, pn, pc⟩) ∧ Lies P w' (t, ⟨lb, nb, cb⟩, ⟨pb, mp, cq⟩)) := Lib.hid (fun w' h => ⟨hs.keep fun b _ hb => (h.block b (by omega) (by simp)).trans (HE0.out.block b hb (by simp)), ht.keep fun b _ hb => (h.block b (by omega) (by simp)).trans (HE0.out.block b hb (by simp))⟩)
  obtain ⟨q, hq⟩ : ∃ q, q = forkCheckI s t := ⟨_, rfl⟩
  have HC : Hid (∀ w', Ex w0.heap.size none w0 w' → Calls Tryz.prog 23 #[.agg (rFk s lo ln lc po pn pc t lb nb cb pb mp cq)] w' fun e w'' => e = .returned (.int .i64 q) ∧ Ex w'.heap.size none w' w'') := Lib.hid (fun w' h => by rw [hq]; exact checkF3_any s t lo po ln lc pn pc lb pb nb cb mp cq w' (HLX.out w' h).1 (HLX.out w' h).2 hts htt)
  have HQ1 := Lib.hid hq
  obtain ⟨d0, d1, d2, d3, d4, d5, d6, d7, d8, d9, d10, d11, d12, d13, d14, d15, d16, d17, d18, d19, d20, d21, d22, d23, d24, d25⟩ := HQ.out _ (Ex.refl _ _ _)
  have hld := run_rowLoad (P := Tryz.prog) w0 w.heap.size 29 29 (rFk s lo ln lc po pn pc t lb nb cb pb mp cq) (0, 0) _ (HB0.out _ (Ex.refl _ _ _)) Tryz.underlying29 rfl Tryz.sizeFork
  by_cases hq0 : q = 0
  · subst hq0
    have HF := Lib.hid (fcI_zero hq.symm)
    have HEN : Hid (encL s = encS s ∧ encL t = encS t ∧ encI s = 0 ∧ encI t = 0) := Lib.hid ⟨by unfold encL; rw [if_pos ⟨HF.out.1, HF.out.2.2.1⟩], by unfold encL; rw [if_pos ⟨HF.out.2.1, HF.out.2.2.2⟩], by unfold encI; rw [if_pos HF.out.1, if_pos HF.out.2.2.1], by unfold encI; rw [if_pos HF.out.2.1, if_pos HF.out.2.2.2]⟩
    have HE1 : Hid (∀ w', Ex w0.heap.size none w0 w' → Calls Tryz.prog 48 #[.agg (rSt s lo ln lc po pn pc)] w' fun e w'' => ∃ u, e = .returned (.tuple #[u, .int .i64 0]) ∧ SlC (fun b => w'.heap.size ≤ b) w'' u (encS s) ∧ Ex w'.heap.size none w' w'') := Lib.hid (fun w' h => by have := enc03_any s lo po ln lc pn pc w' (HLX.out w' h).1 hts; rwa [HEN.out.1, HEN.out.2.2.1] at this)
    have HE2 : Hid (∀ w', Ex w0.heap.size none w0 w' → Calls Tryz.prog 48 #[.agg (rSt t lb nb cb pb mp cq)] w' fun e w'' => ∃ u, e = .returned (.tuple #[u, .int .i64 0]) ∧ SlC (fun b => w'.heap.size ≤ b) w'' u (encS t) ∧ Ex w'.heap.size none w' w'') := Lib.hid (fun w' h => by have := enc03_any t lb pb nb cb mp cq w' (HLX.out w' h).2 htt; rwa [HEN.out.2.1, HEN.out.2.2.2] at this)
    have HSM : Hid ((encS s).length ≤ 200000 ∧ (encS t).length ≤ 200000) := Lib.hid ⟨encS_small HF.out.1 HF.out.2.2.1, encS_small HF.out.2.1 HF.out.2.2.2⟩
    have HEF : Hid (encF s t = (([] ++ int8 (strOf (encS s)).size ++ strL (strOf (encS s))) ++ int8 (strOf (encS t)).size ++ strL (strOf (encS t)))) := Lib.hid (by unfold encF; rw [if_pos hq.symm])
    clear hs ht hts htt hq
    go_enter Tryz.func20, Tryz.ntmps20
    go_upto_region 1 with (fail)
    rw [← hw0]
    clear hw0
    go_upto_region 6 with (first
      | (go_at_call 23
         refine (HC.out _ (Ex.refl _ _ _)).mono ?_
         rintro e w1 ⟨rfl, hex⟩
         have HX1 : Hid (Ex w0.heap.size none w0 w1) := Lib.hid hex
         clear hex hld d0 d1 d2 d3 d4 d5 d6 d7 d8 d9 d10 d11 d12 d13 d14 d15 d16 d17 d18 d19 d20 d21 d22 d23 d24 d25
         obtain ⟨d0, d1, d2, d3, d4, d5, d6, d7, d8, d9, d10, d11, d12, d13, d14, d15, d16, d17, d18, d19, d20, d21, d22, d23, d24, d25⟩ := HQ.out _ HX1.out)
      | (go_at_call 48
         fail_if_success (first | have _x := HX2 | fail)
         refine (HE1.out _ HX1.out).mono ?_
         rintro e w2 ⟨u2, rfl, hu, hex⟩
         have HX2 : Hid (Ex w0.heap.size none w0 w2) := Lib.hid (HX1.out.trans hex HX1.out.size (by simp))
         have HU2 := Lib.hid hu
         clear hu hex d0 d1 d2 d3 d4 d5 d6 d7 d8 d9 d10 d11 d12 d13 d14 d15 d16 d17 d18 d19 d20 d21 d22 d23 d24 d25
         obtain ⟨d0, d1, d2, d3, d4, d5, d6, d7, d8, d9, d10, d11, d12, d13, d14, d15, d16, d17, d18, d19, d20, d21, d22, d23, d24, d25⟩ := HQ.out _ HX2.out)
      | (go_at_call 48
         fail_if_success (first | have _x := HX3 | fail)
         refine (HE2.out _ HX2.out).mono ?_
         rintro e w3 ⟨u3, rfl, hu, hex⟩
         have HX3 : Hid (Ex w0.heap.size none w0 w3) := Lib.hid (HX2.out.trans hex HX2.out.size (by simp))
         have HCV : Hid (∀ w', Ex w3.heap.size none w3 w' → (fun w3 => (convert 30 9 u2).run Tryz.prog w3 = .ok (.string (strOf (encS s))) w3 ∧ (convert 30 9 u3).run Tryz.prog w3 = .ok (.string (strOf (encS t))) w3) w') := Lib.hid (fun w' h => ⟨run_strOf (((HU2.out.keep fun b _ hb => hex.block b hb (by simp)).keep fun b _ hb => h.block b hb (by simp)).sl) _ _ Tryz.underlying30 Tryz.underlying5 Tryz.underlying9, run_strOf ((hu.keep fun b _ hb => h.block b hb (by simp)).sl) _ _ Tryz.underlying30 Tryz.underlying5 Tryz.underlying9⟩)
         have hz3 : w0.heap.size ≤ w3.heap.size := HX3.out.size
         clear hu hex d0 d1 d2 d3 d4 d5 d6 d7 d8 d9 d10 d11 d12 d13 d14 d15 d16 d17 d18 d19 d20 d21 d22 d23 d24 d25)
      | fail)
    obtain ⟨hcv1, hcv2⟩ := HCV.out _ (Ex.refl _ _ _)
    clear HE1 HE2 HC HQ HLX HB0 HU2
    generalize Value.agg (rFk s lo ln lc po pn pc t lb nb cb pb mp cq) = fa
    generalize Value.agg (rSt s lo ln lc po pn pc) = fs
    generalize Value.agg (rSt t lb nb cb pb mp cq) = ft
    go_region_held3 (fun w3 => (convert 30 9 u2).run Tryz.prog w3 = .ok (.string (strOf (encS s))) w3 ∧ (convert 30 9 u3).run Tryz.prog w3 = .ok (.string (strOf (encS t))) w3)
      (first | exact HCV.out _ HX5.out | exact HCV.out _ HX4.out | exact HCV.out _ (Ex.refl _ _ _) | exact HCV.out _ (Ex.drew (Ex.refl _ _ _)) | exact HCV.out _ (Ex.drew HX4.out))
      (first
        | (go_at_call 49
           fail_if_success (first | have _x := HX4 | fail)
           refine (text02_v (.slice none 0 0) [] (strOf (encS s)) _ (Sl.nil (fun _ => True) _) (by simp) (by rw [strOf_size]; have := HSM.out.1; omega)).mono ?_
           rintro e w4 ⟨u4, rfl, hv, hex⟩
           have HX4 : Hid (Ex w3.heap.size none w3 w4) := Lib.hid ((by repeat (first | exact Ex.refl _ _ _ | refine Ex.drew ?_) : Ex w3.heap.size none w3 _).trans hex (by first | omega | (simp; done) | (simp; omega)) (by simp))
           have hz4 : w3.heap.size ≤ w4.heap.size := HX4.out.size
           have HV4 : Hid (∀ w', Ex w4.heap.size none w4 w' → Sl byRep (fun _ => True) w' u4 ([] ++ int8 (strOf (encS s)).size ++ strL (strOf (encS s)))) := Lib.hid (fun w' h => (hv.keep h (Nat.le_refl _)).sl.mono (by decide) fun _ _ _ => trivial)
           clear hv hex)
        | (go_at_call 49
           refine (text02_v u4 _ (strOf (encS t)) _ (HV4.out _ (by repeat (first | exact Ex.refl _ _ _ | refine Ex.drew ?_))) (by simp only [List.length_append, int8_len, strL_len, strOf_size, List.length_nil]; have := HSM.out.1; omega) (by rw [strOf_size]; have := HSM.out.2; omega)).mono ?_
           rintro e w5 ⟨u5, rfl, hv, hex⟩
           have HX5 : Hid (Ex w3.heap.size none w3 w5) := Lib.hid ((by repeat (first | exact HX4.out | refine Ex.drew ?_) : Ex w3.heap.size none w3 _).trans hex (by first | omega | (simp; done) | (simp; omega)) (by simp))
           have HV5 := Lib.hid hv
           have hz5 : w4.heap.size ≤ w5.heap.size := by have := hex.size; first | omega | (simp at this; omega)
           clear hv hex)
        | fail)
    go_wp2
    go_ret2
    exact ⟨u5, by rw [← HQ1.out]; rfl, by rw [HEF.out]; exact HV5.out.slc.mono fun b hb _ => by first | omega | (simp at hb; omega), HE0.out.trans (HX3.out.trans HX5.out (by omega) (by simp)) (by omega) (by simp)⟩
  · have hqb : (q == 0) = false := by simpa using hq0
    have HEF : Hid (encF s t = []) := Lib.hid (by unfold encF; rw [if_neg (fun h => hq0 (hq.trans h))])
    clear hs ht hts htt hq
    go_enter Tryz.func20, Tryz.ntmps20
    go_upto_region 1 with (fail)
    rw [← hw0]
    clear hw0
    go_wp2_with (first
      | (go_at_call 23
         refine (HC.out _ (Ex.refl _ _ _)).mono ?_
         rintro e w1 ⟨rfl, hex⟩
         have HX1 : Hid (Ex w0.heap.size none w0 w1) := Lib.hid hex
         clear hex d0 d1 d2 d3 d4 d5 d6 d7 d8 d9 d10 d11 d12 d13 d14 d15 d16 d17 d18 d19 d20 d21 d22 d23 d24 d25)
      | fail)
    go_ret2
    exact ⟨.slice none 0 0, by rw [← HQ1.out]; rfl, by rw [HEF.out]; exact SlC.nil _ _, HE0.out.trans HX1.out (by omega) (by simp)⟩
end Go.Proofs.YtoeklgbajggndaaGreat

namespace Go.Proofs.YtoeklgbajggndaaGreat
open Go.RowKit Go.Sort

attribute [local go_sem ↓] rowLoad_fork
set_option maxHeartbeats 8000000 in
set_option maxRecDepth 100000 in
theorem encFP_any {P : Nat → Prop} (s t : St) (lo po : Option Addr) (ln lc pn pc : Nat) (lb pb : Option Addr) (nb cb mp cq : Nat) (w : World) (hs : Lies P w (s, ⟨lo, ln, lc⟩, ⟨po, pn, pc⟩)) (ht : Lies P w (t, ⟨lb, nb, cb⟩, ⟨pb, mp, cq⟩)) (hts : Tame s) (htt : Tame t) :
    Calls Tryz.prog 19 #[.agg (rFk s lo ln lc po pn pc t lb nb cb pb mp cq)] w fun e w' => ∃ u, e = .returned (.tuple #[u, .int .i64 (forkCheckI s t)]) ∧ SlC (fun b => w.heap.size ≤ b) w' u (encF s t) ∧ Ex w.heap.size none w w' := by
  obtain ⟨w0, hw0⟩ : ∃ w0 : World, w0 = w.alloc (.cells (rFk s lo ln lc po pn pc t lb nb cb pb mp cq) 29) := ⟨_, rfl⟩
  have hz0 : w.heap.size < w0.heap.size := by rw [hw0]; simp
  have HE0 : Hid (Ex w.heap.size none w w0) := by rw [hw0]; exact Ex.new w _
  have HB0 : Hid (∀ w', Ex w0.heap.size none w0 w' → w'.heap[w.heap.size]? = some (.cells (rFk s lo ln lc po pn pc t lb nb cb pb mp cq) 29 (0, 0))) := Lib.hid (fun w' h => (h.block w.heap.size hz0 (by simp)).trans (by rw [hw0]; exact heap_alloc_new w _))
  have HQ : Hid (∀ w', Ex w0.heap.size none w0 w' → w'.cell? ⟨w.heap.size, 0, none⟩ = some (.int .i64 s.author) ∧ w'.cell? ⟨w.heap.size, 1, none⟩ = some (.int .i64 s.number) ∧ w'.cell? ⟨w.heap.size, 2, none⟩ = some (.string s.prev) ∧ w'.cell? ⟨w.heap.size, 3, none⟩ = some (.int .i64 s.time) ∧ w'.cell? ⟨w.heap.size, 4, none⟩ = some (.int .i64 s.kind) ∧ w'.cell? ⟨w.heap.size, 5, none⟩ = some (.int .i64 s.a) ∧ w'.cell? ⟨w.heap.size, 6, none⟩ = some (.int .i64 s.b) ∧ w'.cell? ⟨w.heap.size, 7, none⟩ = some (.int .i64 s.c) ∧ w'.cell? ⟨w.heap.size, 8, none⟩ = some (.slice lo ln lc) ∧ w'.cell? ⟨w.heap.size, 9, none⟩ = some (.slice po pn pc) ∧ w'.cell? ⟨w.heap.size, 10, none⟩ = some (.string s.body) ∧ w'.cell? ⟨w.heap.size, 11, none⟩ = some (.int .i64 s.key) ∧ w'.cell? ⟨w.heap.size, 12, none⟩ = some (.string s.dig) ∧ w'.cell? ⟨w.heap.size, 13, none⟩ = some (.int .i64 t.author) ∧ w'.cell? ⟨w.heap.size, 14, none⟩ = some (.int .i64 t.number) ∧ w'.cell? ⟨w.heap.size, 15, none⟩ = some (.string t.prev) ∧ w'.cell? ⟨w.heap.size, 16, none⟩ = some (.int .i64 t.time) ∧ w'.cell? ⟨w.heap.size, 17, none⟩ = some (.int .i64 t.kind) ∧ w'.cell? ⟨w.heap.size, 18, none⟩ = some (.int .i64 t.a) ∧ w'.cell? ⟨w.heap.size, 19, none⟩ = some (.int .i64 t.b) ∧ w'.cell? ⟨w.heap.size, 20, none⟩ = some (.int .i64 t.c) ∧ w'.cell? ⟨w.heap.size, 21, none⟩ = some (.slice lb nb cb) ∧ w'.cell? ⟨w.heap.size, 22, none⟩ = some (.slice pb mp cq) ∧ w'.cell? ⟨w.heap.size, 23, none⟩ = some (.string t.body) ∧ w'.cell? ⟨w.heap.size, 24, none⟩ = some (.int .i64 t.key) ∧ w'.cell? ⟨w.heap.size, 25, none⟩ = some (.string t.dig)) := Lib.hid (fun w' h => by
    have hb := HB0.out w' h
    exact ⟨(cell_of_row _ _ 0 _ _ _ hb), (cell_of_row _ _ 1 _ _ _ hb), (cell_of_row _ _ 2 _ _ _ hb), (cell_of_row _ _ 3 _ _ _ hb), (cell_of_row _ _ 4 _ _ _ hb), (cell_of_row _ _ 5 _ _ _ hb), (cell_of_row _ _ 6 _ _ _ hb), (cell_of_row _ _ 7 _ _ _ hb), (cell_of_row _ _ 8 _ _ _ hb), (cell_of_row _ _ 9 _ _ _ hb), (cell_of_row _ _ 10 _ _ _ hb), (cell_of_row _ _ 11 _ _ _ hb), (cell_of_row _ _ 12 _ _ _ hb), (cell_of_row _ _ 13 _ _ _ hb), (cell_of_row _ _ 14 _ _ _ hb), (cell_of_row _ _ 15 _ _ _ hb), (cell_of_row _ _ 16 _ _ _ hb), (cell_of_row _ _ 17 _ _ _ hb), (cell_of_row _ _ 18 _ _ _ hb), (cell_of_row _ _ 19 _ _ _ hb), (cell_of_row _ _ 20 _ _ _ hb), (cell_of_row _ _ 21 _ _ _ hb), (cell_of_row _ _ 22 _ _ _ hb), (cell_of_row _ _ 23 _ _ _ hb), (cell_of_row _ _ 24 _ _ _ hb), (cell_of_row _ _ 25 _ _ _ hb)⟩)
  have HLX : Hid (∀ w', Ex w0.heap.size none w0 w' → Lies P w' (s, ⟨lo, ln, lc⟩, ⟨po, pn, pc⟩) ∧ Lies P w' (t, ⟨lb, nb, cb⟩, ⟨pb, mp, cq⟩)) := Lib.hid (fun w' h => ⟨hs.keep fun b _ hb => (h.block b (by omega) (by simp)).trans (HE0.out.block b hb (by simp)), ht.keep fun b _ hb => (h.block b (by omega) (by simp)).trans (HE0.out.block b hb (by simp))⟩)
  obtain ⟨q, hq⟩ : ∃ q, q = forkCheckI s t := ⟨_, rfl⟩
  have HC : Hid (∀ w', Ex w0.heap.size none w0 w' → Calls Tryz.prog 15 #[.agg (rFk s lo ln lc po pn pc t lb nb cb pb mp cq)] w' fun e w'' => e = .returned (.int .i64 q) ∧ Ex w'.heap.size none w' w'') := Lib.hid (fun w' h => by rw [hq]; exact checkFP_any s t lo po ln lc pn pc lb pb nb cb mp cq w' (HLX.out w' h).1 (HLX.out w' h).2 hts htt)
  have HQ1 := Lib.hid hq
  obtain ⟨d0, d1, d2, d3, d4, d5, d6, d7, d8, d9, d10, d11, d12, d13, d14, d15, d16, d17, d18, d19, d20, d21, d22, d23, d24, d25⟩ := HQ.out _ (Ex.refl _ _ _)
  have hld := run_rowLoad (P := Tryz.prog) w0 w.heap.size 29 29 (rFk s lo ln lc po pn pc t lb nb cb pb mp cq) (0, 0) _ (HB0.out _ (Ex.refl _ _ _)) Tryz.underlying29 rfl Tryz.sizeFork
  by_cases hq0 : q = 0
  · subst hq0
    have HF := Lib.hid (fcI_zero hq.symm)
    have HEN : Hid (encL s = encS s ∧ encL t = encS t ∧ encI s = 0 ∧ encI t = 0) := Lib.hid ⟨by unfold encL; rw [if_pos ⟨HF.out.1, HF.out.2.2.1⟩], by unfold encL; rw [if_pos ⟨HF.out.2.1, HF.out.2.2.2⟩], by unfold encI; rw [if_pos HF.out.1, if_pos HF.out.2.2.1], by unfold encI; rw [if_pos HF.out.2.1, if_pos HF.out.2.2.2]⟩
    have HE1 : Hid (∀ w', Ex w0.heap.size none w0 w' → Calls Tryz.prog 46 #[.agg (rSt s lo ln lc po pn pc)] w' fun e w'' => ∃ u, e = .returned (.tuple #[u, .int .i64 0]) ∧ SlC (fun b => w'.heap.size ≤ b) w'' u (encS s) ∧ Ex w'.heap.size none w' w'') := Lib.hid (fun w' h => by have := encP_any s lo po ln lc pn pc w' (HLX.out w' h).1 hts; rwa [HEN.out.1, HEN.out.2.2.1] at this)
    have HE2 : Hid (∀ w', Ex w0.heap.size none w0 w' → Calls Tryz.prog 46 #[.agg (rSt t lb nb cb pb mp cq)] w' fun e w'' => ∃ u, e = .returned (.tuple #[u, .int .i64 0]) ∧ SlC (fun b => w'.heap.size ≤ b) w'' u (encS t) ∧ Ex w'.heap.size none w' w'') := Lib.hid (fun w' h => by have := encP_any t lb pb nb cb mp cq w' (HLX.out w' h).2 htt; rwa [HEN.out.2.1, HEN.out.2.2.2] at this)
    have HSM : Hid ((encS s).length ≤ 200000 ∧ (encS t).length ≤ 200000) := Lib.hid ⟨encS_small HF.out.1 HF.out.2.2.1, encS_small HF.out.2.1 HF.out.2.2.2⟩
    have HEF : Hid (encF s t = (([] ++ int8 (strOf (encS s)).size ++ strL (strOf (encS s))) ++ int8 (strOf (encS t)).size ++ strL (strOf (encS t)))) := Lib.hid (by unfold encF; rw [if_pos hq.symm])
    clear hs ht hts htt hq
    go_enter Tryz.func19, Tryz.ntmps19
    go_upto_region 1 with (fail)
    rw [← hw0]
    clear hw0
    go_upto_region 6 with (first
      | (go_at_call 15
         refine (HC.out _ (Ex.refl _ _ _)).mono ?_
         rintro e w1 ⟨rfl, hex⟩
         have HX1 : Hid (Ex w0.heap.size none w0 w1) := Lib.hid hex
         clear hex hld d0 d1 d2 d3 d4 d5 d6 d7 d8 d9 d10 d11 d12 d13 d14 d15 d16 d17 d18 d19 d20 d21 d22 d23 d24 d25
         obtain ⟨d0, d1, d2, d3, d4, d5, d6, d7, d8, d9, d10, d11, d12, d13, d14, d15, d16, d17, d18, d19, d20, d21, d22, d23, d24, d25⟩ := HQ.out _ HX1.out)
      | (go_at_call 46
         fail_if_success (first | have _x := HX2 | fail)
         refine (HE1.out _ HX1.out).mono ?_
         rintro e w2 ⟨u2, rfl, hu, hex⟩
         have HX2 : Hid (Ex w0.heap.size none w0 w2) := Lib.hid (HX1.out.trans hex HX1.out.size (by simp))
         have HU2 := Lib.hid hu
         clear hu hex d0 d1 d2 d3 d4 d5 d6 d7 d8 d9 d10 d11 d12 d13 d14 d15 d16 d17 d18 d19 d20 d21 d22 d23 d24 d25
         obtain ⟨d0, d1, d2, d3, d4, d5, d6, d7, d8, d9, d10, d11, d12, d13, d14, d15, d16, d17, d18, d19, d20, d21, d22, d23, d24, d25⟩ := HQ.out _ HX2.out)
      | (go_at_call 46
         fail_if_success (first | have _x := HX3 | fail)
         refine (HE2.out _ HX2.out).mono ?_
         rintro e w3 ⟨u3, rfl, hu, hex⟩
         have HX3 : Hid (Ex w0.heap.size none w0 w3) := Lib.hid (HX2.out.trans hex HX2.out.size (by simp))
         have HCV : Hid (∀ w', Ex w3.heap.size none w3 w' → (fun w3 => (convert 30 9 u2).run Tryz.prog w3 = .ok (.string (strOf (encS s))) w3 ∧ (convert 30 9 u3).run Tryz.prog w3 = .ok (.string (strOf (encS t))) w3) w') := Lib.hid (fun w' h => ⟨run_strOf (((HU2.out.keep fun b _ hb => hex.block b hb (by simp)).keep fun b _ hb => h.block b hb (by simp)).sl) _ _ Tryz.underlying30 Tryz.underlying5 Tryz.underlying9, run_strOf ((hu.keep fun b _ hb => h.block b hb (by simp)).sl) _ _ Tryz.underlying30 Tryz.underlying5 Tryz.underlying9⟩)
         have hz3 : w0.heap.size ≤ w3.heap.size := HX3.out.size
         clear hu hex d0 d1 d2 d3 d4 d5 d6 d7 d8 d9 d10 d11 d12 d13 d14 d15 d16 d17 d18 d19 d20 d21 d22 d23 d24 d25)
      | fail)
    obtain ⟨hcv1, hcv2⟩ := HCV.out _ (Ex.refl _ _ _)
    clear HE1 HE2 HC HQ HLX HB0 HU2
    generalize Value.agg (rFk s lo ln lc po pn pc t lb nb cb pb mp cq) = fa
    generalize Value.agg (rSt s lo ln lc po pn pc) = fs
    generalize Value.agg (rSt t lb nb cb pb mp cq) = ft
    go_region_held3 (fun w3 => (convert 30 9 u2).run Tryz.prog w3 = .ok (.string (strOf (encS s))) w3 ∧ (convert 30 9 u3).run Tryz.prog w3 = .ok (.string (strOf (encS t))) w3)
      (first | exact HCV.out _ HX5.out | exact HCV.out _ HX4.out | exact HCV.out _ (Ex.refl _ _ _) | exact HCV.out _ (Ex.drew (Ex.refl _ _ _)) | exact HCV.out _ (Ex.drew HX4.out))
      (first
        | (go_at_call 47
           fail_if_success (first | have _x := HX4 | fail)
           refine (text_v (.slice none 0 0) [] (strOf (encS s)) _ (Sl.nil (fun _ => True) _) (by simp) (by rw [strOf_size]; have := HSM.out.1; omega)).mono ?_
           rintro e w4 ⟨u4, rfl, hv, hex⟩
           have HX4 : Hid (Ex w3.heap.size none w3 w4) := Lib.hid ((by repeat (first | exact Ex.refl _ _ _ | refine Ex.drew ?_) : Ex w3.heap.size none w3 _).trans hex (by first | omega | (simp; done) | (simp; omega)) (by simp))
           have hz4 : w3.heap.size ≤ w4.heap.size := HX4.out.size
           have HV4 : Hid (∀ w', Ex w4.heap.size none w4 w' → Sl byRep (fun _ => True) w' u4 ([] ++ int8 (strOf (encS s)).size ++ strL (strOf (encS s)))) := Lib.hid (fun w' h => (hv.keep h (Nat.le_refl _)).sl.mono (by decide) fun _ _ _ => trivial)
           clear hv hex)
        | (go_at_call 47
           refine (text_v u4 _ (strOf (encS t)) _ (HV4.out _ (by repeat (first | exact Ex.refl _ _ _ | refine Ex.drew ?_))) (by simp only [List.length_append, int8_len, strL_len, strOf_size, List.length_nil]; have := HSM.out.1; omega) (by rw [strOf_size]; have := HSM.out.2; omega)).mono ?_
           rintro e w5 ⟨u5, rfl, hv, hex⟩
           have HX5 : Hid (Ex w3.heap.size none w3 w5) := Lib.hid ((by repeat (first | exact HX4.out | refine Ex.drew ?_) : Ex w3.heap.size none w3 _).trans hex (by first | omega | (simp; done) | (simp; omega)) (by simp))
           have HV5 := Lib.hid hv
           have hz5 : w4.heap.size ≤ w5.heap.size := by have := hex.size; first | omega | (simp at this; omega)
           clear hv hex)
        | fail)
    go_wp2
    go_ret2
    exact ⟨u5, by rw [← HQ1.out]; rfl, by rw [HEF.out]; exact HV5.out.slc.mono fun b hb _ => by first | omega | (simp at hb; omega), HE0.out.trans (HX3.out.trans HX5.out (by omega) (by simp)) (by omega) (by simp)⟩
  · have hqb : (q == 0) = false := by simpa using hq0
    have HEF : Hid (encF s t = []) := Lib.hid (by unfold encF; rw [if_neg (fun h => hq0 (hq.trans h))])
    clear hs ht hts htt hq
    go_enter Tryz.func19, Tryz.ntmps19
    go_upto_region 1 with (fail)
    rw [← hw0]
    clear hw0
    go_wp2_with (first
      | (go_at_call 15
         refine (HC.out _ (Ex.refl _ _ _)).mono ?_
         rintro e w1 ⟨rfl, hex⟩
         have HX1 : Hid (Ex w0.heap.size none w0 w1) := Lib.hid hex
         clear hex d0 d1 d2 d3 d4 d5 d6 d7 d8 d9 d10 d11 d12 d13 d14 d15 d16 d17 d18 d19 d20 d21 d22 d23 d24 d25)
      | fail)
    go_ret2
    exact ⟨.slice none 0 0, by rw [← HQ1.out]; rfl, by rw [HEF.out]; exact SlC.nil _ _, HE0.out.trans HX1.out (by omega) (by simp)⟩
end Go.Proofs.YtoeklgbajggndaaGreat

namespace Go.Proofs.YtoeklgbajggndaaGreat
open Go.RowKit Go.Sort
attribute [local go_sem ↓] rowStore_st rowLoad_st
/-- What a decoding hands back: the statement and no error, or the empty one and the error. -/
def DecIs (xs : List UInt8) (s : St) (c : Int) : Prop := (decS xs = some s ∧ c = 0) ∨ (decS xs = none ∧ s = zeroSt ∧ c = 1)
theorem results_two_cells {P : Program} {fn : Func} {p q : Tmp} {tp tq : TypeId} (h : fn.results = #[.cell p tp, .cell q tq]) (tmps : Array Value) (w : World) (a b : Addr) (va vb : Value) (hp : tmps.getD p undef = .pointer (some a)) (hq : tmps.getD q undef = .pointer (some b))
    (ha : (loadVar tp a).run P w = .ok va w) (hb : (loadVar tq b).run P w = .ok vb w) : (results fn tmps).run P w = .ok (.tuple #[va, vb]) w := by
  have hp' : tmps[p]?.getD undef = .pointer (some a) := by simpa using hp
  have hq' : tmps[q]?.getD undef = .pointer (some b) := by simpa using hq
  simp [results, h, hp', hq', asAddr, ha, hb]
theorem Tryz.loadErrno (w : World) (b : Nat) (n : Int) (h : w.heap[b]? = some (.cells #[.int .i64 n] 38 (0, 0))) : (loadVar 38 ⟨b, 0, none⟩).run Tryz.prog w = .ok (.int .i64 n) w := by
  have d := (row1_cell h).1
  go_simp
set_option maxHeartbeats 8000000 in
set_option maxRecDepth 100000 in
theorem decP_any {P : Nat → Prop} (v : Value) (xs : List UInt8) (s : St) (c : Int) (w : World) (hv : SlC P w v xs) (hm : xs.length ≤ 1000) (hd : DecIs xs s c) :
    Calls Tryz.prog 51 #[v] w fun e w' => ∃ (lo : Option Addr) (ln lc : Nat) (po : Option Addr) (pn pc : Nat), e = .returned (.tuple #[.agg (rSt s lo ln lc po pn pc), .int .i64 c]) ∧ Lies (fun b => w.heap.size ≤ b) w' (s, ⟨lo, ln, lc⟩, ⟨po, pn, pc⟩) ∧ Ex w.heap.size none w w' := by
  have hmf : ∀ (fn : Fn) (first cap : Array Value) (w : World), (Instr.makeFunc fn first cap).run Tryz.prog w = .ok (.func fn first cap) w := fun _ _ _ _ => rfl
  have HDI := Lib.hid hd
  clear hd
  obtain ⟨ao, cap, rfl, hc, hx⟩ := hv
  obtain ⟨m, hml⟩ : ∃ m, m = xs.length := ⟨_, rfl⟩
  have HML := Lib.hid hml
  rw [← hml] at hc ⊢
  obtain ⟨wa, hwa⟩ : ∃ wa : World, wa = (w.alloc (.cells zSt 27)).alloc (.cells #[.int .i64 0] 38) := ⟨_, rfl⟩
  have hza : wa.heap.size = w.heap.size + 2 := by rw [hwa]; simp
  have hxa : Ex w.heap.size none w wa := by rw [hwa]; exact (Ex.new w _).trans (Ex.new _ _) (by simp) (by simp)
  have HRa : Hid (wa.heap[w.heap.size]? = some (.cells zSt 27 (0, 0))) := Lib.hid (by rw [hwa]; exact ((Ex.new (w.alloc (.cells zSt 27)) (.cells #[.int .i64 0] 38)).block w.heap.size (by simp) (by simp)).trans (heap_alloc_new w _))
  have HEa : Hid (wa.heap[w.heap.size + 1]? = some (.cells #[.int .i64 0] 38 (0, 0))) := Lib.hid (by rw [hwa]; have := heap_alloc_new (w.alloc (.cells zSt 27)) (.cells #[.int .i64 0] 38); rwa [World.size_alloc] at this)
  obtain ⟨w1, hw1⟩ : ∃ w1 : World, w1 = wa.alloc (.cells #[.slice ao m cap] 122) := ⟨_, rfl⟩
  have hz1 : w1.heap.size = w.heap.size + 3 := by rw [hw1, World.size_alloc]; omega
  have hx1 : Ex wa.heap.size none wa w1 := by rw [hw1]; exact Ex.new wa _
  have HR1 : Hid (w1.heap[w.heap.size]? = some (.cells zSt 27 (0, 0))) := Lib.hid ((hx1.block _ (by omega) (by simp)).trans HRa.out)
  have HE1 : Hid (w1.heap[w.heap.size + 1]? = some (.cells #[.int .i64 0] 38 (0, 0))) := Lib.hid ((hx1.block _ (by omega) (by simp)).trans HEa.out)
  have HX1 : Hid (Ex w.heap.size none w w1) := Lib.hid (hxa.trans hx1 (by omega) (by simp))
  have HD1 : Hid (RdP w1 (w.heap.size + 2) xs) := Lib.hid ⟨.slice ao m cap, by have := heap_alloc_new wa (.cells #[.slice ao m cap] 122); rw [hza] at this; rw [hw1]; exact this, ⟨ao, cap, by rw [hml], by omega, (hx.mono (P' := fun b => b ≠ w.heap.size + 2 ∧ True) (by decide) fun b _ hb => ⟨by omega, trivial⟩).keep (by decide) fun b hb hlt => ((hxa.trans hx1 (by omega) (by simp)).block b hlt (by simp))⟩⟩
  have HZ1 : Hid (w1.heap.size = w.heap.size + 3) := Lib.hid hz1
  clear hx hxa hx1 hml
  have HD2 : Hid (RdP w1 (w.heap.size + 1 + 1) xs) := HD1
  clear HD1 HRa HEa
  have HPAN : Hid (∀ (tmps : Array Value) (w2 : World) (cs0 : Array Value) (n0 : Int), decS xs = none → tmps.getD 2 undef = .pointer (some ⟨w.heap.size, 0, none⟩) → tmps.getD 3 undef = .pointer (some ⟨w.heap.size + 1, 0, none⟩) → w2.heap[w.heap.size]? = some (.cells cs0 27 (0, 0)) → cs0.size = 13 → w2.heap[w.heap.size + 1]? = some (.cells #[.int .i64 n0] 38 (0, 0)) → Ex w.heap.size none w w2 →
      Leaves Tryz.prog Tryz.f51 tmps (fun e w' => ∃ (lo : Option Addr) (ln lc : Nat) (po : Option Addr) (pn pc : Nat), e = .returned (.tuple #[.agg (rSt s lo ln lc po pn pc), .int .i64 c]) ∧ Lies (fun b => w.heap.size ≤ b) w' (s, ⟨lo, ln, lc⟩, ⟨po, pn, pc⟩) ∧ Ex w.heap.size none w w') [{ target := .fn (.func 92) #[.pointer (some ⟨w.heap.size, 0, none⟩), .pointer (some ⟨w.heap.size + 1, 0, none⟩)], args := #[] }] (.panicking brk) w2) := Lib.hid (fun tmps w2 cs0 n0 hdec ht2 ht3 h1 h2 h3 hex => by
    refine leaves_cons (f := 92) (args := #[.pointer (some ⟨w.heap.size, 0, none⟩), .pointer (some ⟨w.heap.size + 1, 0, none⟩)]) (by simp) (by simp [go_sem]) ?_
    refine (catchDec w.heap.size (w.heap.size + 1) cs0 n0 [] w2 h1 h2 h3 (by omega)).mono ?_
    rintro e u' w'' ⟨rfl, rfl, k1, k2, k3⟩
    refine ⟨.tuple #[.agg zSt, .int .i64 1], results_two_cells Tryz.results51 tmps w'' ⟨w.heap.size, 0, none⟩ ⟨w.heap.size + 1, 0, none⟩ _ _ ht2 ht3 (run_loadVar_row w'' w.heap.size 27 27 _ (0, 0) _ k1 Tryz.underlying27 rfl Tryz.sizeStm) (Tryz.loadErrno w'' _ 1 k2), ?_⟩
    obtain ⟨rfl, rfl⟩ : s = zeroSt ∧ c = 1 := by
      rcases HDI.out with ⟨h, _⟩ | ⟨_, h1, h2⟩
      · rw [hdec] at h; cases h
      · exact ⟨h1, h2⟩
    exact ⟨none, 0, 0, none, 0, 0, rfl, Lies.zero _ _, hex.trans (k3 w.heap.size (Nat.le_refl _) (by omega) hex.size) (Nat.le_refl _) (by simp)⟩)
  go_enter_defers Tryz.func51, Tryz.ntmps51
  go_upto_region 3 with (fail)
  rw [← hwa, ← hw1]
  clear hwa hw1
  obtain ⟨G, hG⟩ : ∃ G, G = w.heap.size + 1 + 1 := ⟨_, rfl⟩
  rw [← hG] at HD2 ⊢
  have hGz : G < w1.heap.size := by omega
  have hGw : w.heap.size + 1 < G := by omega
  clear hG
  go_upto_region 4 with (first
    | (go_at_call 93
       refine (readS_any G xs w1 HD2.out (by omega)).mono ?_
       rintro e w2 (⟨t, lo, ln, lc, po, pn, pc, r, hT, rfl, hls, hrd, hex⟩ | ⟨hT, rfl, hex⟩)
       rotate_left
       · exact HPAN.out _ w2 _ 0 (by unfold decS; rw [hT]; rfl) rfl rfl ((hex.block _ (by omega) (by intro e; have := Option.some.inj e; omega)).trans HR1.out) rfl ((hex.block _ (by omega) (by intro e; have := Option.some.inj e; omega)).trans HE1.out) (HX1.out.trans hex (by omega) (by intro q e hlt; have := Option.some.inj e; omega))
       have HT := Lib.hid hT
       have HLS := Lib.hid hls
       have HRD := Lib.hid hrd
       have HX2 : Hid (Ex w.heap.size none w w2) := Lib.hid (HX1.out.trans hex (by omega) (by intro q e hlt; have := Option.some.inj e; omega))
       have hz2 : w1.heap.size ≤ w2.heap.size := hex.size
       have HR2 := Lib.hid ((hex.block _ (by omega) (by intro e; have := Option.some.inj e; omega)).trans HR1.out)
       have HE2 := Lib.hid ((hex.block _ (by omega) (by intro e; have := Option.some.inj e; omega)).trans HE1.out)
       have hst := run_rowStore (P := Tryz.prog) w2 w.heap.size 27 27 zSt (rSt t lo ln lc po pn pc) HR2.out Tryz.sizeStm rfl (by simp [Value.oneCell'])
       obtain ⟨w3, hw3⟩ : ∃ w3, w3 = w2.setRow w.heap.size (rSt t lo ln lc po pn pc) := ⟨_, rfl⟩
       rw [← hw3] at hst
       have hx3 : Ex w2.heap.size (some w.heap.size) w2 w3 := by rw [hw3]; exact (Ex.refl _ _ _).setRow _ _ (.inl rfl)
       have HR3 : Hid (w3.heap[w.heap.size]? = some (.cells (rSt t lo ln lc po pn pc) 27 (0, 0))) := Lib.hid (by rw [hw3]; exact setRow_heap _ _ _ _ _ _ HR2.out)
       have HE3 := Lib.hid ((hx3.block (w.heap.size + 1) (by omega) (by intro e; have := Option.some.inj e; omega)).trans HE2.out)
       have HX3 : Hid (Ex w.heap.size none w w3) := Lib.hid (by rw [hw3]; exact HX2.out.setRow _ _ (.inr (Nat.le_refl _)))
       have hz3 : w2.heap.size ≤ w3.heap.size := hx3.size
       have HLS3 : Hid (Lies (fun b => w1.heap.size ≤ b) w3 (t, ⟨lo, ln, lc⟩, ⟨po, pn, pc⟩)) := Lib.hid (HLS.out.keep fun b hb hlt => hx3.block b hlt (by intro e; have := Option.some.inj e; omega))
       obtain ⟨v3, hv3, ao3, cap3, rfl, hc3, hs3⟩ := HRD.out
       have hv3' := (hx3.block G (by omega) (by intro e; have := Option.some.inj e; omega)).trans hv3
       have dG := (row1_cell hv3').1
       clear hT hls hrd hex hw3 hx3 hv3 hv3' hs3)
    | fail)
  clear hst
  obtain ⟨mr, hmr⟩ : ∃ mr, mr = r.length := ⟨_, rfl⟩
  have HMR := Lib.hid hmr
  have HTM : Hid (Tame t) := Lib.hid (tame_of_bytes (takeSt_back HT.out) hm)
  have HSZ : Hid (ln ≤ 9223372036854775807 ∧ pn ≤ 9223372036854775807) := Lib.hid (by
    have h1 := HTM.out.list
    have h2 := HTM.out.pins
    obtain ⟨⟨_, _, e1, _⟩, ⟨_, _, e2, _⟩⟩ := HLS.out
    simp only [Sv.v, Value.slice.injEq] at e1 e2
    omega)
  rw [← hmr] at dG hc3
  by_cases h0 : mr = 0
  · have HR0 : Hid (r = []) := Lib.hid (List.eq_nil_of_length_eq_zero (by omega))
    subst h0
    clear hmr
    go_upto_region 5 with (first
      | (go_at_call 94
         refine (need_yes _).mono ?_
         rintro e w' ⟨rfl, rfl⟩)
      | fail)
    obtain ⟨q, hq⟩ : ∃ q, q = checkI t := ⟨_, rfl⟩
    have HQ := Lib.hid hq
    have hld := run_rowLoad (P := Tryz.prog) w' w.heap.size 27 27 (rSt t lo ln lc po pn pc) (0, 0) _ HR3.out Tryz.underlying27 rfl Tryz.sizeStm
    have HCK : Hid (Calls Tryz.prog 26 #[.agg (rSt t lo ln lc po pn pc)] w' fun e w'' => e = .returned (.int .i64 q) ∧ Ex w'.heap.size none w' w'') := Lib.hid (by rw [hq]; exact checkP_any t lo po ln lc pn pc w' HLS3.out HSZ.out)
    clear hq
    by_cases hq0 : q = 0
    · subst hq0
      go_upto_region 6 with (first
        | (go_at_call 26
           refine HCK.out.mono ?_
           rintro e w4 ⟨rfl, hex⟩
           have hz4 : w'.heap.size ≤ w4.heap.size := hex.size
           have HR4 := Lib.hid ((hex.block w.heap.size (by omega) (by simp)).trans HR3.out)
           have HE4 := Lib.hid ((hex.block (w.heap.size + 1) (by omega) (by simp)).trans HE3.out)
           have HX4 : Hid (Ex w.heap.size none w w4) := Lib.hid (HX3.out.trans hex (by omega) (by simp))
           have HLS4 := Lib.hid (HLS3.out.keep fun b _ hlt => hex.block b hlt (by simp))
           clear hex hld)
        | (go_at_call 94
           refine (need_yes _).mono ?_
           rintro e w5 ⟨rfl, rfl⟩)
        | fail)
      have hld := run_rowLoad (P := Tryz.prog) w5 w.heap.size 27 27 (rSt t lo ln lc po pn pc) (0, 0) _ HR4.out Tryz.underlying27 rfl Tryz.sizeStm
      cases hsb : sealedB t with
      | true =>
        have HSL : Hid (Calls Tryz.prog 27 #[.agg (rSt t lo ln lc po pn pc)] w5 fun e w'' => e = .returned (.bool true) ∧ Ex w5.heap.size none w5 w'') := Lib.hid (asB (sealedP_any t lo po ln lc pn pc w5 HLS4.out HTM.out) hsb)
        have HDE : Hid (decS xs = some t) := Lib.hid (by unfold decS; rw [HT.out]; simp only [Option.bind_some]; rw [if_pos ⟨HR0.out, HQ.out.symm, hsb⟩])
        clear hsb
        go_upto_region 7 with (first
          | (go_at_call 27
             refine HSL.out.mono ?_
             rintro e w6 ⟨rfl, hex⟩
             have hz6 : w5.heap.size ≤ w6.heap.size := hex.size
             have HR6 := Lib.hid ((hex.block w.heap.size (by omega) (by simp)).trans HR4.out)
             have HE6 := Lib.hid ((hex.block (w.heap.size + 1) (by omega) (by simp)).trans HE4.out)
             have HX6 : Hid (Ex w.heap.size none w w6) := Lib.hid (HX4.out.trans hex (by omega) (by simp))
             have HLS6 := Lib.hid (HLS4.out.keep fun b _ hlt => hex.block b hlt (by simp))
             clear hex hld)
          | (go_at_call 94
             refine (need_yes _).mono ?_
             rintro e w7 ⟨rfl, rfl⟩)
          | fail)
        have hld := run_rowLoad (P := Tryz.prog) w7 w.heap.size 27 27 (rSt t lo ln lc po pn pc) (0, 0) _ HR6.out Tryz.underlying27 rfl Tryz.sizeStm
        have hst := run_rowStore (P := Tryz.prog) w7 w.heap.size 27 27 (rSt t lo ln lc po pn pc) (rSt t lo ln lc po pn pc) HR6.out Tryz.sizeStm rfl (by simp [Value.oneCell'])
        obtain ⟨w8, hw8⟩ : ∃ w8, w8 = w7.setRow w.heap.size (rSt t lo ln lc po pn pc) := ⟨_, rfl⟩
        rw [← hw8] at hst
        have hx8 : Ex w7.heap.size (some w.heap.size) w7 w8 := by rw [hw8]; exact (Ex.refl _ _ _).setRow _ _ (.inl rfl)
        have HR8 : Hid (w8.heap[w.heap.size]? = some (.cells (rSt t lo ln lc po pn pc) 27 (0, 0))) := Lib.hid (by rw [hw8]; exact setRow_heap _ _ _ _ _ _ HR6.out)
        have HE8 := Lib.hid ((hx8.block (w.heap.size + 1) (by omega) (by intro e; have := Option.some.inj e; omega)).trans HE6.out)
        have HX8 : Hid (Ex w.heap.size none w w8) := Lib.hid (by rw [hw8]; exact HX6.out.setRow _ _ (.inr (Nat.le_refl _)))
        have HLS8 := Lib.hid (HLS6.out.keep (w' := w8) fun b hb hlt => hx8.block b hlt (by intro e; have := Option.some.inj e; omega))
        have hz8 : w7.heap.size ≤ w8.heap.size := hx8.size
        obtain ⟨e0, g0⟩ := row1_cell HE8.out
        clear hw8 hx8
        go_wp2_with (fail)
        clear hld hst e0 g0
        obtain ⟨w9, hw9⟩ : ∃ w9, w9 = w8.setCell ⟨w.heap.size + 1, 0, none⟩ (.int .i64 0) := ⟨_, rfl⟩
        have hx9 : Ex w8.heap.size (some (w.heap.size + 1)) w8 w9 := by rw [hw9]; exact (Ex.refl _ _ _).setCell 0 none _ (.inl rfl)
        have HR9 := Lib.hid ((hx9.block w.heap.size (by omega) (by intro e; have := Option.some.inj e; omega)).trans HR8.out)
        have HE9 : Hid (w9.heap[w.heap.size + 1]? = some (.cells #[.int .i64 0] 38 (0, 0))) := Lib.hid (by rw [hw9]; exact row1_set HE8.out)
        have HX9 : Hid (Ex w.heap.size none w w9) := Lib.hid (by rw [hw9]; exact HX8.out.setCell 0 none _ (.inr (by omega)))
        have HLS9 := Lib.hid (HLS8.out.keep (w' := w9) fun b hb hlt => hx9.block b hlt (by intro e; have := Option.some.inj e; omega))
        have hz9 : w8.heap.size ≤ w9.heap.size := hx9.size
        rw [← hw9]
        clear hw9 hx9
        refine leaves_cons (f := 92) (args := #[.pointer (some ⟨w.heap.size, 0, none⟩), .pointer (some ⟨w.heap.size + 1, 0, none⟩)]) (by simp) (by simp [go_sem]) ?_
        refine (idleDec w.heap.size (w.heap.size + 1) w9).mono ?_
        rintro e u' wx ⟨rfl, rfl, hex⟩
        refine ⟨.tuple #[.agg (rSt t lo ln lc po pn pc), .int .i64 0], results_two_cells Tryz.results51 _ wx ⟨w.heap.size, 0, none⟩ ⟨w.heap.size + 1, 0, none⟩ _ _ rfl rfl (run_loadVar_row wx w.heap.size 27 27 _ (0, 0) _ ((hex.block _ (by omega) (by simp)).trans HR9.out) Tryz.underlying27 rfl Tryz.sizeStm) (Tryz.loadErrno wx _ 0 ((hex.block _ (by omega) (by simp)).trans HE9.out)), ?_⟩
        obtain ⟨rfl, rfl⟩ : t = s ∧ c = 0 := by
          rcases HDI.out with ⟨h, h2⟩ | ⟨h, _⟩
          · rw [HDE.out] at h; exact ⟨Option.some.inj h, h2⟩
          · rw [HDE.out] at h; cases h
        exact ⟨lo, ln, lc, po, pn, pc, rfl, (HLS9.out.keep fun b _ hlt => hex.block b hlt (by simp)).mono fun b hb _ => by omega, HX9.out.trans hex (by omega) (by simp)⟩
      | false =>
        have HSL : Hid (Calls Tryz.prog 27 #[.agg (rSt t lo ln lc po pn pc)] w5 fun e w'' => e = .returned (.bool false) ∧ Ex w5.heap.size none w5 w'') := Lib.hid (asB (sealedP_any t lo po ln lc pn pc w5 HLS4.out HTM.out) hsb)
        have HDE : Hid (decS xs = none) := Lib.hid (by unfold decS; rw [HT.out]; simp only [Option.bind_some]; rw [if_neg (fun h => by rw [hsb] at h; exact absurd h.2.2 (by decide))])
        clear hsb
        go_wp2_with (first
          | (go_at_call 27
             refine HSL.out.mono ?_
             rintro e w6 ⟨rfl, hex⟩
             have hz6 : w5.heap.size ≤ w6.heap.size := hex.size
             have HR6 := Lib.hid ((hex.block w.heap.size (by omega) (by simp)).trans HR4.out)
             have HE6 := Lib.hid ((hex.block (w.heap.size + 1) (by omega) (by simp)).trans HE4.out)
             have HX6 : Hid (Ex w.heap.size none w w6) := Lib.hid (HX4.out.trans hex (by omega) (by simp))
             clear hex hld)
          | (go_at_call 94
             refine (need_no _).mono ?_
             rintro e w7 ⟨rfl, rfl⟩)
          | fail)
        refine HPAN.out _ w7 _ 0 HDE.out ?_ ?_ HR6.out rfl HE6.out HX6.out <;> rfl
    · have hqb : (q == 0) = false := by simpa using hq0
      have hqd : decide (q = 0) = false := decide_eq_false hq0
      have HDE : Hid (decS xs = none) := Lib.hid (by unfold decS; rw [HT.out]; simp only [Option.bind_some]; rw [if_neg (fun h => hq0 (HQ.out.trans h.2.1))])
      go_wp2_with (first
        | (go_at_call 26
           refine HCK.out.mono ?_
           rintro e w4 ⟨rfl, hex⟩
           have hz4 : w'.heap.size ≤ w4.heap.size := hex.size
           have HR4 := Lib.hid ((hex.block w.heap.size (by omega) (by simp)).trans HR3.out)
           have HE4 := Lib.hid ((hex.block (w.heap.size + 1) (by omega) (by simp)).trans HE3.out)
           have HX4 : Hid (Ex w.heap.size none w w4) := Lib.hid (HX3.out.trans hex (by omega) (by simp))
           clear hex hld)
        | (go_at_call 94
           refine (need_no _).mono ?_
           rintro e w5 ⟨rfl, rfl⟩)
        | fail)
      refine HPAN.out _ w5 _ 0 HDE.out ?_ ?_ HR4.out rfl HE4.out HX4.out <;> rfl
  · have HDE : Hid (decS xs = none) := Lib.hid (by unfold decS; rw [HT.out]; simp only [Option.bind_some]; rw [if_neg (fun h => h0 (by rw [hmr, h.1]; rfl))])
    have h0I : ¬ (mr : Int) = 0 := by omega
    have h0b : ((mr : Int) == 0) = false := by simpa using h0I
    have h0c : (mr == 0) = false := by simpa using h0
    have h0d : decide (mr = 0) = false := decide_eq_false h0
    clear hmr
    go_wp2_with (first
      | (go_at_call 94
         refine (need_no _).mono ?_
         rintro e w4 ⟨rfl, rfl⟩)
      | fail)
    refine HPAN.out _ w4 _ 0 HDE.out ?_ ?_ HR3.out rfl HE3.out HX3.out <;> rfl
end Go.Proofs.YtoeklgbajggndaaGreat

namespace Go.Proofs.YtoeklgbajggndaaGreat
open Go.RowKit Go.Sort

theorem conv_bytes (w : World) (s : ByteArray) : ∃ cap w2, (convert 9 30 (.string s)).run Tryz.prog w = .ok (.slice (some ⟨w.heap.size, 0, none⟩) s.size cap) w2 ∧ SlC (fun b => w.heap.size ≤ b) w2 (.slice (some ⟨w.heap.size, 0, none⟩) s.size cap) (strL s) ∧ Ex w.heap.size none w w2 := by
  refine ⟨_, _, Lib.run_convert_string_bytes w 9 30 5 s Tryz.underlying9 Tryz.underlying30 Tryz.underlying5, ⟨_, _, by rw [strL_len], by rw [strL_len]; exact grownCap_ge w s.size 0 _, fun i hi => ?_⟩, ?_⟩
  · have hi' : i < s.size := by rwa [strL_len] at hi
    refine ⟨w.heap.size, 0, byE (strL s)[i], rfl, Nat.le_refl _, fun j v hv => ?_, rfl⟩
    match j, hv with
    | 0, hv =>
      have h := Lib.bytesWorld_cell w 5 s i hi'
      have e : v = .int .u8 ((strL s)[i]).toNat := by simpa [byE] using hv.symm
      rw [e, show 0 + i * byRep.k + 0 = i by simp [byRep, valRep], h]
      congr 3
      have hl : i < s.data.toList.length := by have := strL_len s; unfold strL at this; omega
      rw [List.getD_eq_getElem?_getD, List.getElem?_eq_getElem hl]
      rfl
    | j + 1, hv => simp [byE] at hv
  · exact ⟨rfl, rfl, rfl, by rw [Lib.bytesWorld_size]; omega, fun b hb _ => Lib.bytesWorld_at_old w 5 s b hb⟩
/-- What is decoded of evidence. -/
def decF (b : List UInt8) : Option (St × St) :=
  (takeT b 1048576).bind fun q1 => (takeT q1.2 1048576).bind fun q2 => if q2.2 = [] then (decS (strL q1.1)).bind fun s => (decS (strL q2.1)).bind fun t => if forkCheckI s t = 0 then some (s, t) else none else none
theorem takeT_most {b : List UInt8} {m m' : Int} (h : (b.length : Int) ≤ m) (h' : (b.length : Int) ≤ m') : takeT b m = takeT b m' := by
  unfold takeT
  cases hi : takeI b with
  | none => rfl
  | some q =>
    obtain ⟨n, r⟩ := q
    have := takeI_len hi
    simp only
    by_cases hc : n < 0 ∨ (r.length : Int) < n
    · rw [if_pos (by rcases hc with h | h <;> simp [h]), if_pos (by rcases hc with h | h <;> simp [h])]
    · rw [if_neg (by omega), if_neg (by omega)]
/-- What a decoding of evidence hands back. -/
def DecF (xs : List UInt8) (s t : St) (c : Int) : Prop := (decF xs = some (s, t) ∧ c = 0) ∨ (decF xs = none ∧ s = zeroSt ∧ t = zeroSt ∧ c = 1)
theorem decIs_ex (xs : List UInt8) : ∃ s c, DecIs xs s c ∧ (c = 0 ∨ c = 1) := by
  cases h : decS xs with
  | none => exact ⟨zeroSt, 1, .inr ⟨h, rfl, rfl⟩, .inr rfl⟩
  | some s => exact ⟨s, 0, .inl ⟨h, rfl⟩, .inl rfl⟩
theorem decF_ex (xs : List UInt8) : ∃ s t c, DecF xs s t c := by
  cases h : decF xs with
  | none => exact ⟨zeroSt, zeroSt, 1, .inr ⟨h, rfl, rfl, rfl⟩⟩
  | some q => exact ⟨q.1, q.2, 0, .inl ⟨h, rfl⟩⟩
theorem DecIs.some {xs : List UInt8} {s : St} (h : DecIs xs s 0) : decS xs = some s := by
  rcases h with ⟨h, _⟩ | ⟨_, _, h⟩
  · exact h
  · exact absurd h (by decide)
theorem DecIs.none {xs : List UInt8} {s : St} {c : Int} (h : DecIs xs s c) (hc : ¬ c = 0) : decS xs = none := by
  rcases h with ⟨_, h⟩ | ⟨h, _⟩
  · exact absurd h hc
  · exact h
theorem zeroSt_tame : Tame zeroSt := ⟨Nat.zero_le _, Nat.zero_le _, Nat.zero_le _, Nat.zero_le _, Nat.zero_le _⟩
theorem DecIs.tame {xs : List UInt8} {s : St} {c : Int} (h : DecIs xs s c) : Tame s := by
  rcases h with ⟨h, _⟩ | ⟨_, rfl, _⟩
  · exact checkI_tame (decS_back h).2.1
  · exact zeroSt_tame
end Go.Proofs.YtoeklgbajggndaaGreat

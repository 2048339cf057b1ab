/- statement.Encode and ref03.Encode: contracts. No statement of the seat. -/
import Derived.Test.YtoeklgbajggndaaGreatCheckPG
import Derived.Test.YtoeklgbajggndaaGreatChk03G
import Derived.Test.YtoeklgbajggndaaGreatMg11
import Derived.Test.YtoeklgbajggndaaGreatMg06
import Derived.Test.YtoeklgbajggndaaGreatMg08
import Derived.Deep.RegionHeld3
namespace Go.Proofs.YtoeklgbajggndaaGreat
open Go.RowKit Go.Sort

/-- The error of a writing, and the bytes. -/
def encI (s : St) : Int := if checkI s = 0 then (if sealedB s = true then 0 else 6) else checkI s
def encL (s : St) : List UInt8 := if checkI s = 0 ∧ sealedB s = true then encS s else []
theorem ByV.slc {w : World} {base : Nat} {v : Value} {xs : List UInt8} (h : ByV w base v xs) : SlC (fun b => base ≤ b) w v xs := by
  obtain ⟨ro, rc, rfl, h⟩ := h
  exact OwnB.slc h
theorem sealed_dig {s : St} (h : sealedB s = true) : s.dig = sha (stB s) := by
  simp only [sealedB, Bool.and_eq_true, decide_eq_true_eq] at h
  exact h.2

set_option maxHeartbeats 8000000 in
set_option maxRecDepth 100000 in
theorem encP_any {P : Nat → Prop} (s : St) (lo po : Option Addr) (ln lc pn pc : Nat) (w : World) (hs : Lies P w (s, ⟨lo, ln, lc⟩, ⟨po, pn, pc⟩)) (ht : Tame s) :
    Calls Tryz.prog 46 #[.agg #[.int .i64 s.author, .int .i64 s.number, .string s.prev, .int .i64 s.time, .int .i64 s.kind, .int .i64 s.a, .int .i64 s.b, .int .i64 s.c, .slice lo ln lc, .slice po pn pc, .string s.body, .int .i64 s.key, .string s.dig]] w fun e w' => ∃ u, e = .returned (.tuple #[u, .int .i64 (encI s)]) ∧ SlC (fun b => w.heap.size ≤ b) w' u (encL s) ∧ Ex w.heap.size none w w' := by
  have HT := Lib.hid ht
  have HLS := Lib.hid hs
  have HSZ : Hid (ln ≤ 9223372036854775807 ∧ pn ≤ 9223372036854775807) := Lib.hid (by
    have h1 := ht.list
    have h2 := ht.pins
    obtain ⟨⟨_, _, e1, _⟩, ⟨_, _, e2, _⟩⟩ := hs
    simp only [Sv.v, Value.slice.injEq] at e1 e2
    omega)
  clear hs ht
  obtain ⟨w0, hw0⟩ : ∃ w0 : World, w0 = w.alloc (.cells #[.int .i64 s.author, .int .i64 s.number, .string s.prev, .int .i64 s.time, .int .i64 s.kind, .int .i64 s.a, .int .i64 s.b, .int .i64 s.c, .slice lo ln lc, .slice po pn pc, .string s.body, .int .i64 s.key, .string s.dig] 27) := ⟨_, rfl⟩
  have hz0 : w.heap.size < w0.heap.size := by rw [hw0]; simp
  have HE0 : Hid (Ex w.heap.size none w w0) := by rw [hw0]; exact Ex.new w _
  have HQ : Hid (∀ w', Ex w0.heap.size none w0 w' → w'.cell? ⟨w.heap.size, 0, none⟩ = some (.int .i64 s.author) ∧ w'.cell? ⟨w.heap.size, 1, none⟩ = some (.int .i64 s.number) ∧ w'.cell? ⟨w.heap.size, 2, none⟩ = some (.string s.prev) ∧ w'.cell? ⟨w.heap.size, 3, none⟩ = some (.int .i64 s.time) ∧ w'.cell? ⟨w.heap.size, 4, none⟩ = some (.int .i64 s.kind) ∧ w'.cell? ⟨w.heap.size, 5, none⟩ = some (.int .i64 s.a) ∧ w'.cell? ⟨w.heap.size, 6, none⟩ = some (.int .i64 s.b) ∧ w'.cell? ⟨w.heap.size, 7, none⟩ = some (.int .i64 s.c) ∧ w'.cell? ⟨w.heap.size, 8, none⟩ = some (.slice lo ln lc) ∧ w'.cell? ⟨w.heap.size, 9, none⟩ = some (.slice po pn pc) ∧ w'.cell? ⟨w.heap.size, 10, none⟩ = some (.string s.body) ∧ w'.cell? ⟨w.heap.size, 11, none⟩ = some (.int .i64 s.key) ∧ w'.cell? ⟨w.heap.size, 12, none⟩ = some (.string s.dig)) := Lib.hid (fun w' h => (st_block ((h.block w.heap.size hz0 (by simp)).trans (by rw [hw0]; exact heap_alloc_new w _))).1)
  have HLX : Hid (∀ w', Ex w0.heap.size none w0 w' → Lies P w' (s, ⟨lo, ln, lc⟩, ⟨po, pn, pc⟩)) := Lib.hid (fun w' h => HLS.out.keep fun b _ hb => (h.block b (by omega) (by simp)).trans (HE0.out.block b hb (by simp)))
  obtain ⟨q, hq⟩ : ∃ q, q = checkI s := ⟨_, rfl⟩
  have HQC := Lib.hid hq
  have HCK : Hid (∀ w', Ex w0.heap.size none w0 w' → Calls Tryz.prog 26 #[.agg #[.int .i64 s.author, .int .i64 s.number, .string s.prev, .int .i64 s.time, .int .i64 s.kind, .int .i64 s.a, .int .i64 s.b, .int .i64 s.c, .slice lo ln lc, .slice po pn pc, .string s.body, .int .i64 s.key, .string s.dig]] w' fun e w'' => e = .returned (.int .i64 q) ∧ Ex w'.heap.size none w' w'') := Lib.hid (fun w' h => by rw [hq]; exact checkP_any s lo po ln lc pn pc w' (HLX.out w' h) HSZ.out)
  clear hq
  obtain ⟨d0, d1, d2, d3, d4, d5, d6, d7, d8, d9, d10, d11, d12⟩ := HQ.out _ (Ex.refl _ _ _)
  by_cases hq0 : q = 0
  · subst hq0
    cases hsb : sealedB s with
    | true =>
      have HSL : Hid (∀ w', Ex w0.heap.size none w0 w' → Calls Tryz.prog 27 #[.agg #[.int .i64 s.author, .int .i64 s.number, .string s.prev, .int .i64 s.time, .int .i64 s.kind, .int .i64 s.a, .int .i64 s.b, .int .i64 s.c, .slice lo ln lc, .slice po pn pc, .string s.body, .int .i64 s.key, .string s.dig]] w' fun e w'' => e = .returned (.bool true) ∧ Ex w'.heap.size none w' w'') := Lib.hid (fun w' h => asB (sealedP_any s lo po ln lc pn pc w' (HLX.out w' h) HT.out) hsb)
      have HI : Hid (encI s = 0 ∧ encL s = encS s) := Lib.hid ⟨by unfold encI; rw [if_pos HQC.out.symm, if_pos hsb], by unfold encL; rw [if_pos ⟨HQC.out.symm, hsb⟩]⟩
      have HDG : Hid (s.dig.size = 32) := Lib.hid (by rw [sealed_dig hsb, sha_size])
      have HBL : Hid ((stB s).length ≤ 3000000) := Lib.hid (stB_len HT.out)
      clear hsb
      go_enter Tryz.func46, Tryz.ntmps46
      go_upto_region 1 with (fail)
      rw [← hw0]
      clear hw0
      go_upto_region 6 with (first
        | (go_at_call 26
           refine (HCK.out _ (Ex.refl _ _ _)).mono ?_
           rintro e w1 ⟨rfl, hex⟩
           have HX1 : Hid (Ex w0.heap.size none w0 w1) := Lib.hid hex
           clear hex d0 d1 d2 d3 d4 d5 d6 d7 d8 d9 d10 d11 d12
           obtain ⟨d0, d1, d2, d3, d4, d5, d6, d7, d8, d9, d10, d11, d12⟩ := HQ.out _ HX1.out)
        | (go_at_call 27
           refine (HSL.out _ HX1.out).mono ?_
           rintro e w2 ⟨rfl, hex⟩
           have HX2 : Hid (Ex w0.heap.size none w0 w2) := Lib.hid (HX1.out.trans hex HX1.out.size (by simp))
           have hz2 : w0.heap.size ≤ w2.heap.size := HX2.out.size
           clear hex d0 d1 d2 d3 d4 d5 d6 d7 d8 d9 d10 d11 d12
           obtain ⟨d0, d1, d2, d3, d4, d5, d6, d7, d8, d9, d10, d11, d12⟩ := HQ.out _ HX2.out)
        | fail)
      go_region_held3 (fun w' => w'.cell? ⟨w.heap.size, 0, none⟩ = some (.int .i64 s.author) ∧ w'.cell? ⟨w.heap.size, 1, none⟩ = some (.int .i64 s.number) ∧ w'.cell? ⟨w.heap.size, 2, none⟩ = some (.string s.prev) ∧ w'.cell? ⟨w.heap.size, 3, none⟩ = some (.int .i64 s.time) ∧ w'.cell? ⟨w.heap.size, 4, none⟩ = some (.int .i64 s.kind) ∧ w'.cell? ⟨w.heap.size, 5, none⟩ = some (.int .i64 s.a) ∧ w'.cell? ⟨w.heap.size, 6, none⟩ = some (.int .i64 s.b) ∧ w'.cell? ⟨w.heap.size, 7, none⟩ = some (.int .i64 s.c) ∧ w'.cell? ⟨w.heap.size, 8, none⟩ = some (.slice lo ln lc) ∧ w'.cell? ⟨w.heap.size, 9, none⟩ = some (.slice po pn pc) ∧ w'.cell? ⟨w.heap.size, 10, none⟩ = some (.string s.body) ∧ w'.cell? ⟨w.heap.size, 11, none⟩ = some (.int .i64 s.key) ∧ w'.cell? ⟨w.heap.size, 12, none⟩ = some (.string s.dig))
        (first | exact HQ.out _ HX5.out | exact HQ.out _ HX4.out | exact HQ.out _ HX3.out | exact HQ.out _ HX2.out | exact HQ.out _ (Ex.drew HX2.out))
        (first
          | (go_at_call 85
             refine (bytesP_any s lo po ln lc pn pc _ (HLX.out _ (by repeat (first | exact HX2.out | refine Ex.drew ?_))) HT.out).mono ?_
             rintro e w3 ⟨v3, rfl, hv, hex⟩
             have HX3 : Hid (Ex w0.heap.size none w0 w3) := Lib.hid (((by repeat (first | exact HX2.out | refine Ex.drew ?_)) : Ex w0.heap.size none w0 _).trans hex (by first | omega | (simp; done) | (simp; omega)) (by simp))
             have hz3 : w0.heap.size ≤ w3.heap.size := HX3.out.size
             have HV3 : Hid (∀ w', Ex w3.heap.size none w3 w' → Sl byRep (fun _ => True) w' v3 (stB s)) := Lib.hid (fun w' h => (hv.keep h (Nat.le_refl _)).sl.mono (by decide) fun _ _ _ => trivial)
             clear hv hex)
          | (go_at_call 90
             refine (int_v v3 (stB s) s.key _ (HV3.out _ (by repeat (first | exact Ex.refl _ _ _ | refine Ex.drew ?_))) (by have := HBL.out; omega)).mono ?_
             rintro e w4 ⟨v4, rfl, hv, hex⟩
             have HX4 : Hid (Ex w0.heap.size none w0 w4) := Lib.hid ((by repeat (first | exact HX3.out | refine Ex.drew ?_) : Ex w0.heap.size none w0 _).trans hex (by first | omega | (simp; done) | (simp; omega)) (by simp))
             have hz4 : w0.heap.size ≤ w4.heap.size := HX4.out.size
             have HV4 : Hid (∀ w', Ex w4.heap.size none w4 w' → Sl byRep (fun _ => True) w' v4 (stB s ++ int8 s.key)) := Lib.hid (fun w' h => (hv.keep h (Nat.le_refl _)).sl.mono (by decide) fun _ _ _ => trivial)
             clear hv hex)
          | (go_at_call 47
             refine (text_v v4 (stB s ++ int8 s.key) s.dig _ (HV4.out _ (by repeat (first | exact Ex.refl _ _ _ | refine Ex.drew ?_))) (by rw [List.length_append, int8_len]; have := HBL.out; omega) (by rw [HDG.out]; omega)).mono ?_
             rintro e w5 ⟨v5, rfl, hv, hex⟩
             have HX5 : Hid (Ex w0.heap.size none w0 w5) := Lib.hid ((by repeat (first | exact HX4.out | refine Ex.drew ?_) : Ex w0.heap.size none w0 _).trans hex (by first | omega | (simp; done) | (simp; omega)) (by simp))
             have HV5 := Lib.hid hv
             have hz5 : w4.heap.size ≤ w5.heap.size := by have := hex.size; first | omega | (simp at this; omega)
             clear hv hex)
          | fail)
      go_wp2
      go_ret2
      exact ⟨v5, by rw [HI.out.1]; rfl, by rw [HI.out.2]; exact HV5.out.slc.mono fun b hb _ => by first | omega | (simp at hb; omega), HE0.out.trans HX5.out (by omega) (by simp)⟩
    | false =>
      have HSL : Hid (∀ w', Ex w0.heap.size none w0 w' → Calls Tryz.prog 27 #[.agg #[.int .i64 s.author, .int .i64 s.number, .string s.prev, .int .i64 s.time, .int .i64 s.kind, .int .i64 s.a, .int .i64 s.b, .int .i64 s.c, .slice lo ln lc, .slice po pn pc, .string s.body, .int .i64 s.key, .string s.dig]] w' fun e w'' => e = .returned (.bool false) ∧ Ex w'.heap.size none w' w'') := Lib.hid (fun w' h => asB (sealedP_any s lo po ln lc pn pc w' (HLX.out w' h) HT.out) hsb)
      have HI : Hid (encI s = 6 ∧ encL s = []) := Lib.hid ⟨by unfold encI; rw [if_pos HQC.out.symm, hsb]; rfl, by unfold encL; rw [if_neg (fun h => by rw [hsb] at h; exact absurd h.2 (by decide))]⟩
      clear hsb
      go_enter Tryz.func46, Tryz.ntmps46
      go_upto_region 1 with (fail)
      rw [← hw0]
      clear hw0
      go_wp2_with (first
        | (go_at_call 26
           refine (HCK.out _ (Ex.refl _ _ _)).mono ?_
           rintro e w1 ⟨rfl, hex⟩
           have HX1 : Hid (Ex w0.heap.size none w0 w1) := Lib.hid hex
           clear hex d0 d1 d2 d3 d4 d5 d6 d7 d8 d9 d10 d11 d12
           obtain ⟨d0, d1, d2, d3, d4, d5, d6, d7, d8, d9, d10, d11, d12⟩ := HQ.out _ HX1.out)
        | (go_at_call 27
           refine (HSL.out _ HX1.out).mono ?_
           rintro e w2 ⟨rfl, hex⟩
           have HX2 : Hid (Ex w0.heap.size none w0 w2) := Lib.hid (HX1.out.trans hex HX1.out.size (by simp))
           clear hex d0 d1 d2 d3 d4 d5 d6 d7 d8 d9 d10 d11 d12)
        | fail)
      go_ret2
      exact ⟨.slice none 0 0, by rw [HI.out.1]; rfl, by rw [HI.out.2]; exact SlC.nil _ _, HE0.out.trans HX2.out (by omega) (by simp)⟩
  · have hqb : (q == 0) = false := by simpa using hq0
    have HI : Hid (encI s = q ∧ encL s = []) := Lib.hid ⟨by unfold encI; rw [if_neg (fun h => hq0 (HQC.out.trans h))]; exact HQC.out.symm, by unfold encL; rw [if_neg (fun h => hq0 (HQC.out.trans h.1))]⟩
    go_enter Tryz.func46, Tryz.ntmps46
    go_upto_region 1 with (fail)
    rw [← hw0]
    clear hw0
    go_wp2_with (first
      | (go_at_call 26
         refine (HCK.out _ (Ex.refl _ _ _)).mono ?_
         rintro e w1 ⟨rfl, hex⟩
         have HX1 : Hid (Ex w0.heap.size none w0 w1) := Lib.hid hex
         clear hex d0 d1 d2 d3 d4 d5 d6 d7 d8 d9 d10 d11 d12)
      | fail)
    go_ret2
    exact ⟨.slice none 0 0, by rw [HI.out.1]; rfl, by rw [HI.out.2]; exact SlC.nil _ _, HE0.out.trans HX1.out (by omega) (by simp)⟩

set_option maxHeartbeats 8000000 in
set_option maxRecDepth 100000 in
theorem enc03_any {P : Nat → Prop} (s : St) (lo po : Option Addr) (ln lc pn pc : Nat) (w : World) (hs : Lies P w (s, ⟨lo, ln, lc⟩, ⟨po, pn, pc⟩)) (ht : Tame s) :
    Calls Tryz.prog 48 #[.agg #[.int .i64 s.author, .int .i64 s.number, .string s.prev, .int .i64 s.time, .int .i64 s.kind, .int .i64 s.a, .int .i64 s.b, .int .i64 s.c, .slice lo ln lc, .slice po pn pc, .string s.body, .int .i64 s.key, .string s.dig]] w fun e w' => ∃ u, e = .returned (.tuple #[u, .int .i64 (encI s)]) ∧ SlC (fun b => w.heap.size ≤ b) w' u (encL s) ∧ Ex w.heap.size none w w' := by
  have HT := Lib.hid ht
  have HLS := Lib.hid hs
  have HSZ : Hid (s.list.length ≤ 9223372036854775807 ∧ s.pins.length ≤ 9223372036854775807) := Lib.hid (by
    have h1 := ht.list
    have h2 := ht.pins
    obtain ⟨⟨_, _, e1, _⟩, ⟨_, _, e2, _⟩⟩ := hs
    simp only [Sv.v, Value.slice.injEq] at e1 e2
    omega)
  clear hs ht
  obtain ⟨w0, hw0⟩ : ∃ w0 : World, w0 = w.alloc (.cells #[.int .i64 s.author, .int .i64 s.number, .string s.prev, .int .i64 s.time, .int .i64 s.kind, .int .i64 s.a, .int .i64 s.b, .int .i64 s.c, .slice lo ln lc, .slice po pn pc, .string s.body, .int .i64 s.key, .string s.dig] 27) := ⟨_, rfl⟩
  have hz0 : w.heap.size < w0.heap.size := by rw [hw0]; simp
  have HE0 : Hid (Ex w.heap.size none w w0) := by rw [hw0]; exact Ex.new w _
  have HQ : Hid (∀ w', Ex w0.heap.size none w0 w' → w'.cell? ⟨w.heap.size, 0, none⟩ = some (.int .i64 s.author) ∧ w'.cell? ⟨w.heap.size, 1, none⟩ = some (.int .i64 s.number) ∧ w'.cell? ⟨w.heap.size, 2, none⟩ = some (.string s.prev) ∧ w'.cell? ⟨w.heap.size, 3, none⟩ = some (.int .i64 s.time) ∧ w'.cell? ⟨w.heap.size, 4, none⟩ = some (.int .i64 s.kind) ∧ w'.cell? ⟨w.heap.size, 5, none⟩ = some (.int .i64 s.a) ∧ w'.cell? ⟨w.heap.size, 6, none⟩ = some (.int .i64 s.b) ∧ w'.cell? ⟨w.heap.size, 7, none⟩ = some (.int .i64 s.c) ∧ w'.cell? ⟨w.heap.size, 8, none⟩ = some (.slice lo ln lc) ∧ w'.cell? ⟨w.heap.size, 9, none⟩ = some (.slice po pn pc) ∧ w'.cell? ⟨w.heap.size, 10, none⟩ = some (.string s.body) ∧ w'.cell? ⟨w.heap.size, 11, none⟩ = some (.int .i64 s.key) ∧ w'.cell? ⟨w.heap.size, 12, none⟩ = some (.string s.dig)) := Lib.hid (fun w' h => (st_block ((h.block w.heap.size hz0 (by simp)).trans (by rw [hw0]; exact heap_alloc_new w _))).1)
  have HLX : Hid (∀ w', Ex w0.heap.size none w0 w' → Lies P w' (s, ⟨lo, ln, lc⟩, ⟨po, pn, pc⟩)) := Lib.hid (fun w' h => HLS.out.keep fun b _ hb => (h.block b (by omega) (by simp)).trans (HE0.out.block b hb (by simp)))
  obtain ⟨q, hq⟩ : ∃ q, q = checkI s := ⟨_, rfl⟩
  have HQC := Lib.hid hq
  have HCK : Hid (∀ w', Ex w0.heap.size none w0 w' → Calls Tryz.prog 54 #[.agg #[.int .i64 s.author, .int .i64 s.number, .string s.prev, .int .i64 s.time, .int .i64 s.kind, .int .i64 s.a, .int .i64 s.b, .int .i64 s.c, .slice lo ln lc, .slice po pn pc, .string s.body, .int .i64 s.key, .string s.dig]] w' fun e w'' => e = .returned (.int .i64 q) ∧ Ex w'.heap.size none w' w'') := Lib.hid (fun w' h => by rw [hq]; exact check03_any s lo po ln lc pn pc w' (HLX.out w' h) HSZ.out)
  clear hq
  obtain ⟨d0, d1, d2, d3, d4, d5, d6, d7, d8, d9, d10, d11, d12⟩ := HQ.out _ (Ex.refl _ _ _)
  by_cases hq0 : q = 0
  · subst hq0
    cases hsb : sealedB s with
    | true =>
      have HSL : Hid (∀ w', Ex w0.heap.size none w0 w' → Calls Tryz.prog 55 #[.agg #[.int .i64 s.author, .int .i64 s.number, .string s.prev, .int .i64 s.time, .int .i64 s.kind, .int .i64 s.a, .int .i64 s.b, .int .i64 s.c, .slice lo ln lc, .slice po pn pc, .string s.body, .int .i64 s.key, .string s.dig]] w' fun e w'' => e = .returned (.bool true) ∧ Ex w'.heap.size none w' w'') := Lib.hid (fun w' h => asB (sealed03_any s lo po ln lc pn pc w' (HLX.out w' h) HT.out) hsb)
      have HI : Hid (encI s = 0 ∧ encL s = encS s) := Lib.hid ⟨by unfold encI; rw [if_pos HQC.out.symm, if_pos hsb], by unfold encL; rw [if_pos ⟨HQC.out.symm, hsb⟩]⟩
      have HDG : Hid (s.dig.size = 32) := Lib.hid (by rw [sealed_dig hsb, sha_size])
      have HBL : Hid ((stB s).length ≤ 3000000) := Lib.hid (stB_len HT.out)
      clear hsb
      go_enter Tryz.func48, Tryz.ntmps48
      go_upto_region 1 with (fail)
      rw [← hw0]
      clear hw0
      go_upto_region 6 with (first
        | (go_at_call 54
           refine (HCK.out _ (Ex.refl _ _ _)).mono ?_
           rintro e w1 ⟨rfl, hex⟩
           have HX1 : Hid (Ex w0.heap.size none w0 w1) := Lib.hid hex
           clear hex d0 d1 d2 d3 d4 d5 d6 d7 d8 d9 d10 d11 d12
           obtain ⟨d0, d1, d2, d3, d4, d5, d6, d7, d8, d9, d10, d11, d12⟩ := HQ.out _ HX1.out)
        | (go_at_call 55
           refine (HSL.out _ HX1.out).mono ?_
           rintro e w2 ⟨rfl, hex⟩
           have HX2 : Hid (Ex w0.heap.size none w0 w2) := Lib.hid (HX1.out.trans hex HX1.out.size (by simp))
           have hz2 : w0.heap.size ≤ w2.heap.size := HX2.out.size
           clear hex d0 d1 d2 d3 d4 d5 d6 d7 d8 d9 d10 d11 d12
           obtain ⟨d0, d1, d2, d3, d4, d5, d6, d7, d8, d9, d10, d11, d12⟩ := HQ.out _ HX2.out)
        | fail)
      go_region_held3 (fun w' => w'.cell? ⟨w.heap.size, 0, none⟩ = some (.int .i64 s.author) ∧ w'.cell? ⟨w.heap.size, 1, none⟩ = some (.int .i64 s.number) ∧ w'.cell? ⟨w.heap.size, 2, none⟩ = some (.string s.prev) ∧ w'.cell? ⟨w.heap.size, 3, none⟩ = some (.int .i64 s.time) ∧ w'.cell? ⟨w.heap.size, 4, none⟩ = some (.int .i64 s.kind) ∧ w'.cell? ⟨w.heap.size, 5, none⟩ = some (.int .i64 s.a) ∧ w'.cell? ⟨w.heap.size, 6, none⟩ = some (.int .i64 s.b) ∧ w'.cell? ⟨w.heap.size, 7, none⟩ = some (.int .i64 s.c) ∧ w'.cell? ⟨w.heap.size, 8, none⟩ = some (.slice lo ln lc) ∧ w'.cell? ⟨w.heap.size, 9, none⟩ = some (.slice po pn pc) ∧ w'.cell? ⟨w.heap.size, 10, none⟩ = some (.string s.body) ∧ w'.cell? ⟨w.heap.size, 11, none⟩ = some (.int .i64 s.key) ∧ w'.cell? ⟨w.heap.size, 12, none⟩ = some (.string s.dig))
        (first | exact HQ.out _ HX5.out | exact HQ.out _ HX4.out | exact HQ.out _ HX3.out | exact HQ.out _ HX2.out | exact HQ.out _ (Ex.drew HX2.out))
        (first
          | (go_at_call 45
             refine (bytes03_any s lo po ln lc pn pc _ (HLX.out _ (by repeat (first | exact HX2.out | refine Ex.drew ?_))) HT.out).mono ?_
             rintro e w3 ⟨v3, rfl, hv, hex⟩
             have HX3 : Hid (Ex w0.heap.size none w0 w3) := Lib.hid (((by repeat (first | exact HX2.out | refine Ex.drew ?_)) : Ex w0.heap.size none w0 _).trans hex (by first | omega | (simp; done) | (simp; omega)) (by simp))
             have hz3 : w0.heap.size ≤ w3.heap.size := HX3.out.size
             have HV3 : Hid (∀ w', Ex w3.heap.size none w3 w' → Sl byRep (fun _ => True) w' v3 (stB s)) := Lib.hid (fun w' h => (hv.keep h (Nat.le_refl _)).sl.mono (by decide) fun _ _ _ => trivial)
             clear hv hex)
          | (go_at_call 88
             refine (int02_v v3 (stB s) s.key _ (HV3.out _ (by repeat (first | exact Ex.refl _ _ _ | refine Ex.drew ?_))) (by have := HBL.out; omega)).mono ?_
             rintro e w4 ⟨v4, rfl, hv, hex⟩
             have HX4 : Hid (Ex w0.heap.size none w0 w4) := Lib.hid ((by repeat (first | exact HX3.out | refine Ex.drew ?_) : Ex w0.heap.size none w0 _).trans hex (by first | omega | (simp; done) | (simp; omega)) (by simp))
             have hz4 : w0.heap.size ≤ w4.heap.size := HX4.out.size
             have HV4 : Hid (∀ w', Ex w4.heap.size none w4 w' → Sl byRep (fun _ => True) w' v4 (stB s ++ int8 s.key)) := Lib.hid (fun w' h => (hv.keep h (Nat.le_refl _)).sl.mono (by decide) fun _ _ _ => trivial)
             clear hv hex)
          | (go_at_call 49
             refine (text02_v v4 (stB s ++ int8 s.key) s.dig _ (HV4.out _ (by repeat (first | exact Ex.refl _ _ _ | refine Ex.drew ?_))) (by rw [List.length_append, int8_len]; have := HBL.out; omega) (by rw [HDG.out]; omega)).mono ?_
             rintro e w5 ⟨v5, rfl, hv, hex⟩
             have HX5 : Hid (Ex w0.heap.size none w0 w5) := Lib.hid ((by repeat (first | exact HX4.out | refine Ex.drew ?_) : Ex w0.heap.size none w0 _).trans hex (by first | omega | (simp; done) | (simp; omega)) (by simp))
             have HV5 := Lib.hid hv
             have hz5 : w4.heap.size ≤ w5.heap.size := by have := hex.size; first | omega | (simp at this; omega)
             clear hv hex)
          | fail)
      go_wp2
      go_ret2
      exact ⟨v5, by rw [HI.out.1]; rfl, by rw [HI.out.2]; exact HV5.out.slc.mono fun b hb _ => by first | omega | (simp at hb; omega), HE0.out.trans HX5.out (by omega) (by simp)⟩
    | false =>
      have HSL : Hid (∀ w', Ex w0.heap.size none w0 w' → Calls Tryz.prog 55 #[.agg #[.int .i64 s.author, .int .i64 s.number, .string s.prev, .int .i64 s.time, .int .i64 s.kind, .int .i64 s.a, .int .i64 s.b, .int .i64 s.c, .slice lo ln lc, .slice po pn pc, .string s.body, .int .i64 s.key, .string s.dig]] w' fun e w'' => e = .returned (.bool false) ∧ Ex w'.heap.size none w' w'') := Lib.hid (fun w' h => asB (sealed03_any s lo po ln lc pn pc w' (HLX.out w' h) HT.out) hsb)
      have HI : Hid (encI s = 6 ∧ encL s = []) := Lib.hid ⟨by unfold encI; rw [if_pos HQC.out.symm, hsb]; rfl, by unfold encL; rw [if_neg (fun h => by rw [hsb] at h; exact absurd h.2 (by decide))]⟩
      clear hsb
      go_enter Tryz.func48, Tryz.ntmps48
      go_upto_region 1 with (fail)
      rw [← hw0]
      clear hw0
      go_wp2_with (first
        | (go_at_call 54
           refine (HCK.out _ (Ex.refl _ _ _)).mono ?_
           rintro e w1 ⟨rfl, hex⟩
           have HX1 : Hid (Ex w0.heap.size none w0 w1) := Lib.hid hex
           clear hex d0 d1 d2 d3 d4 d5 d6 d7 d8 d9 d10 d11 d12
           obtain ⟨d0, d1, d2, d3, d4, d5, d6, d7, d8, d9, d10, d11, d12⟩ := HQ.out _ HX1.out)
        | (go_at_call 55
           refine (HSL.out _ HX1.out).mono ?_
           rintro e w2 ⟨rfl, hex⟩
           have HX2 : Hid (Ex w0.heap.size none w0 w2) := Lib.hid (HX1.out.trans hex HX1.out.size (by simp))
           clear hex d0 d1 d2 d3 d4 d5 d6 d7 d8 d9 d10 d11 d12)
        | fail)
      go_ret2
      exact ⟨.slice none 0 0, by rw [HI.out.1]; rfl, by rw [HI.out.2]; exact SlC.nil _ _, HE0.out.trans HX2.out (by omega) (by simp)⟩
  · have hqb : (q == 0) = false := by simpa using hq0
    have HI : Hid (encI s = q ∧ encL s = []) := Lib.hid ⟨by unfold encI; rw [if_neg (fun h => hq0 (HQC.out.trans h))]; exact HQC.out.symm, by unfold encL; rw [if_neg (fun h => hq0 (HQC.out.trans h.1))]⟩
    go_enter Tryz.func48, Tryz.ntmps48
    go_upto_region 1 with (fail)
    rw [← hw0]
    clear hw0
    go_wp2_with (first
      | (go_at_call 54
         refine (HCK.out _ (Ex.refl _ _ _)).mono ?_
         rintro e w1 ⟨rfl, hex⟩
         have HX1 : Hid (Ex w0.heap.size none w0 w1) := Lib.hid hex
         clear hex d0 d1 d2 d3 d4 d5 d6 d7 d8 d9 d10 d11 d12)
      | fail)
    go_ret2
    exact ⟨.slice none 0 0, by rw [HI.out.1]; rfl, by rw [HI.out.2]; exact SlC.nil _ _, HE0.out.trans HX1.out (by omega) (by simp)⟩
end Go.Proofs.YtoeklgbajggndaaGreat

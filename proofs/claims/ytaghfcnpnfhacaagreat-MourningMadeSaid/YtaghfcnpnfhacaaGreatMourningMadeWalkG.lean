/- The walk of MourningMade. No statement of the seat. -/
import Derived.Test.YtaghfcnpnfhacaaGreatHeirsPG
import Derived.Test.YtaghfcnpnfhacaaGreatHeirs35G
import Derived.Test.YtaghfcnpnfhacaaGreatMg19
import Derived.Test.YtaghfcnpnfhacaaGreatMg02
import Derived.Test.YtaghfcnpnfhacaaGreatMg03
import Derived.Test.YtaghfcnpnfhacaaGreatGriefG
import Derived.Test.YtaghfcnpnfhacaaGreatMg12
import Derived.Test.YtaghfcnpnfhacaaGreatMg13
namespace Go.Proofs.YtaghfcnpnfhacaaGreat
open Go.RowKit Go.Maps Go.Sort

/-- The elements of a slice of statements that came in, as append takes them. -/
theorem sl_parts {P : Nat → Prop} {w : World} {ao : Option Addr} {ms : List St} (h : SlAt stRep P w ao ms) : ∃ xs : List (St × Sv × Sv), xs.map (·.1) = ms ∧ Src w ao xs ∧ ∀ x ∈ xs, Lies P w x := by
  rcases Nat.eq_zero_or_pos ms.length with h0 | h0
  · have : ms = [] := List.eq_nil_of_length_eq_zero h0
    subst this
    exact ⟨[], rfl, .inl rfl, fun x hx => by cases hx⟩
  · obtain ⟨b, off, _, e, _⟩ := h 0 h0
    subst e
    have key : ∀ n, n ≤ ms.length → ∃ xs : List (St × Sv × Sv), xs.map (·.1) = ms.take n ∧ (flatL stE xs).length = n * 13 ∧ (∀ (j : Nat) (v : Value), (flatL stE xs)[j]? = some v → w.cell? ⟨b, off + j, none⟩ = some v) ∧ ∀ x ∈ xs, Lies P w x := by
      intro n
      induction n with
      | zero => intro _; exact ⟨[], rfl, rfl, fun j v hj => by simp [flatL] at hj, fun x hx => by cases hx⟩
      | succ n ih =>
        intro hn
        obtain ⟨xs, h1, hl, h2, h3⟩ := ih (by omega)
        obtain ⟨b', off', cs, e, _, hr, hR⟩ := h n (by omega)
        cases e
        obtain ⟨l, p, hc, hl1, hl2⟩ := hR
        refine ⟨xs ++ [(ms[n], l, p)], ?_, ?_, ?_, ?_⟩
        · rw [List.map_append, h1, List.take_add_one, List.getElem?_eq_getElem (by omega)]; rfl
        · rw [show flatL stE (xs ++ [(ms[n], l, p)]) = flatL stE xs ++ stE (ms[n], l, p) from by simp [flatL], List.length_append, hl, stE_len]; omega
        · intro j v hj
          rw [show flatL stE (xs ++ [(ms[n], l, p)]) = flatL stE xs ++ stE (ms[n], l, p) from by simp [flatL]] at hj
          by_cases hjn : j < n * 13
          · rw [List.getElem?_append_left (by omega)] at hj
            exact h2 j v hj
          · rw [List.getElem?_append_right (by omega), hl] at hj
            have := hr (j - n * 13) v (by rw [hc]; exact hj)
            rw [show off + j = off + n * stRep.k + (j - n * 13) from by show off + j = off + n * 13 + (j - n * 13); omega]
            exact this
        · intro x hx
          rcases List.mem_append.1 hx with hx | hx
          · exact h3 x hx
          · rw [List.mem_singleton.1 hx]; exact ⟨hl1, hl2⟩
    obtain ⟨xs, h1, _, h2, h3⟩ := key ms.length (Nat.le_refl _)
    rw [List.take_length] at h1
    exact ⟨xs, h1, .inr ⟨_, rfl, fun j v hj => by rw [Addr.add_lit]; exact h2 j v hj⟩, h3⟩

theorem own_heirs_slM {w : World} {base : Nat} {ao : Option Addr} {cap n : Nat} {xs : List (Int × Int)} (h : OwnE encH 2 25 w base ao cap xs) (hn : xs.length = n) : Sl heirRep (fun b => base ≤ b) w (.slice ao n cap) xs := by
  subst hn
  refine ⟨ao, cap, rfl, ?_⟩
  rcases h.cases with ⟨rfl, _, rfl⟩ | ⟨g, rfl, hb, _, _⟩
  · exact SlAt.nil _ _ _
  · exact sl_holdsK hb (h.holds (show ∀ x : Int × Int, (encH x).length = 2 from fun _ => rfl))
theorem heirs_len (l : List St) : (heirsP (votesG l) (guardsTo l 64)).length ≤ 64 := by
  have h : ∀ gs : List GuardD, (heirsP (votesG l) gs).length ≤ gs.length := fun gs => by
    induction gs with
    | nil => exact Nat.le_refl _
    | cons g r ih =>
      unfold heirsP at *
      rw [List.flatMap_cons, List.length_append, List.length_cons]
      have := heirP_len (votesG l) g
      omega
  exact Nat.le_trans (h _) (guardsTo_len l 64)
theorem draftV_form (a b : Int) : ∃ dk da db er : Int, draftV a b = .tuple #[.agg #[.int .i64 dk, .int .i64 da, .int .i64 db, .int .i64 0, .slice none 0 0, .slice none 0 0], .int .i64 er] := by
  unfold draftV
  split
  · exact ⟨13, a, b, 0, rfl⟩
  · exact ⟨0, 0, 0, 4, rfl⟩
theorem ownE_sl {P : Nat → Prop} {w : World} {base : Nat} {ao : Option Addr} {cap : Nat} {xs : List (St × Sv × Sv)} (h1 : OwnE stE 13 48 w base ao cap xs) (h2 : ∀ x ∈ xs, Lies P w x) (hP : ∀ b, base ≤ b → P b) : Sl stRep P w (.slice ao (xs.map (·.1)).length cap) (xs.map (·.1)) := by
  refine ⟨ao, cap, by simp, ?_⟩
  rcases h1.cases with ⟨_, _, h0⟩ | ⟨g, rfl, hb, _, _⟩
  · subst h0; exact SlAt.nil _ _ _
  · exact st_sl (hP _ hb) (h1.holds stE_len) h2
set_option maxHeartbeats 16000000 in
set_option maxRecDepth 100000 in
theorem mourningMade_walk (v mv : Value) (L : List Int) (ms : List St) (ra rb : Int) (w : World) (hv : Ints w v L) (hm0 : L.length ≤ 9223372036854775807) (hms : Sl stRep (fun _ => True) w mv ms) (hmm : ms.length ≤ 9223372036854775807) (hml : LightL 9223372036854775807 ms) (hra : -9223372036854775808 ≤ ra ∧ ra ≤ 9223372036854775807) :
    Calls Tryz.prog 3 #[v, mv, .agg #[.int .i64 ra, .int .i64 rb]] w fun e w' => e = .returned (.bool true) ∧ Below w.heap.size w w' := by
  obtain ⟨ao, cap, rfl, hx⟩ := hv
  obtain ⟨mo, mc, rfl, hmx⟩ := hms
  have HX := Lib.hid hx
  have HMX := Lib.hid hmx
  have HML := Lib.hid hml
  clear hx hmx hml
  obtain ⟨mn, hmn⟩ : ∃ mn, mn = ms.length := ⟨_, rfl⟩
  have HMN : Hid (ms.length = mn) := Lib.hid hmn.symm
  rw [← hmn] at hmm ⊢
  clear hmn
  by_cases hm : L.length ≤ 400
  · have hmI : (L.length : Int) ≤ 400 := by omega
    by_cases h10 : mn ≤ 10
    · have h10I : ¬ (10 : Int) < (mn : Int) := by omega
      have h10d : decide ((10 : Int) < (mn : Int)) = false := decide_eq_false h10I
      obtain ⟨xs, hxs1, hxs2, hxs3⟩ := sl_parts HMX.out
      have HXS : Hid (xs.map (·.1) = ms ∧ Src w mo xs ∧ (∀ x ∈ xs, Lies (fun b => b < w.heap.size) w x) ∧ xs.length = mn) := Lib.hid ⟨hxs1, hxs2, fun x hx => (hxs3 x hx).mono fun b _ hb => hb, by rw [← HMN.out, ← hxs1]; simp⟩
      clear hxs1 hxs2 hxs3
      go_enter Tryz.func3, Tryz.ntmps3
      go_upto_region 1 with (fail)
      obtain ⟨w0, hw0⟩ : ∃ w0 : World, w0 = w.alloc (.cells #[.int .i64 ra, .int .i64 rb] 25) := ⟨_, rfl⟩
      have HE0 : Hid (Ex w.heap.size none w w0) := Lib.hid (by rw [hw0]; exact Ex.new _ _)
      have hz0 : w0.heap.size = w.heap.size + 1 := by rw [hw0]; simp
      have HB0 : Hid (w0.heap[w.heap.size]? = some (.cells #[.int .i64 ra, .int .i64 rb] 25 (0, 0))) := Lib.hid (by rw [hw0]; exact heap_alloc_new _ _)
      rw [← hw0]
      clear hw0
      go_upto_region 5 with (first
        | (go_at_call 11; refine (light_any _ _ _ _).mono ?_; rintro e w' ⟨rfl, rfl⟩)
        | (go_at_call 13
           refine (roll_any (.slice ao L.length cap) L w0 ⟨ao, cap, rfl, HX.out.keep HE0.out (Nat.le_refl _) (by simp)⟩ (by omega)).mono ?_
           rintro e w1 ⟨p, rfl, hd, hp1, hp2, hex⟩
           have HD1 : Hid (DiceOK (p + 1) w1 p ∧ Ex w0.heap.size none w0 w1) := Lib.hid ⟨⟨_, hd⟩, hex⟩
           have hz1 : w0.heap.size ≤ w1.heap.size := hex.size
           clear hd hex)
        | (go_at_call 14
           refine (grief_w (p + 1) p _ HD1.out.1 hp2).mono ?_
           rintro e w2 ⟨so, sc, sn, rfl, l, hsn, hs20, hown, hli, hd, hex⟩
           have HD2 : Hid (DiceOK (p + 1) w2 p ∧ Ex w0.heap.size none w0 w2) := Lib.hid ⟨hd, HD1.out.2.trans hex hz1 (fun q e hq => by cases e; omega)⟩
           have HO2 := Lib.hid hown
           have HSN := Lib.hid hsn
           have HLI0 := Lib.hid hli
           have hz2 : w1.heap.size ≤ w2.heap.size := hex.size
           clear hsn hown hli hd hex)
        | (at_builtin
           obtain ⟨ys, hys1, hys2, hys3⟩ := HO2.out
           refine wpList_appE2 rfl (.tmp 27) (.tmp 28) _ 48 (by rfl) Tryz.underlying23 _ 13 160 Tryz.infoSt rfl (by decide) (by decide) stE stE_len one_stE w1.heap.size so sc sn ys (by rw [← HSN.out, ← hys1]; simp) (by rfl) mo mn mc (by rfl) xs HXS.out.2.2.2 hys2 (HXS.out.2.1.keep fun b _ hb => (HD2.out.2.block b (by omega) (by simp)).trans (HE0.out.block b hb (by simp))) (by omega) (by omega) (sn + mn) rfl ?_
           intro ao3 cap3 w3 hod hed hbd hrd
           have hrow : ∀ b, rowOf so = some b → w1.heap.size ≤ b := fun b e => HO2.out.t.row_ge b e
           have HL3 : Hid (∀ x ∈ ys ++ xs, Lies (fun b => b ≠ p) w3 x) := Lib.hid (fun x hx => by
             rcases List.mem_append.1 hx with hx | hx
             · have q := ((hys3 x hx).mono (P' := fun b => (w1.heap.size ≤ b ∧ rowOf so ≠ some b) ∧ b < w2.heap.size) fun b h hb => ⟨h, hb⟩).keep (w' := w3) fun b h _ => hbd b h.2 h.1.2
               exact q.mono fun b h _ => by omega
             · have q := ((HXS.out.2.2.1 x hx).keep (w' := w2) fun b h _ => (HD2.out.2.block b (by omega) (by simp)).trans (HE0.out.block b h (by simp))).keep (w' := w3) fun b h _ => hbd b (by omega) (fun e => by have := hrow b e; omega)
               exact q.mono fun b h _ => by omega)
           have HO3 : Hid (OwnE stE 13 48 w3 w1.heap.size ao3 cap3 (ys ++ xs)) := Lib.hid hod
           have HMP : Hid ((ys ++ xs).map (·.1) = l ++ ms) := Lib.hid (by rw [List.map_append, hys1, HXS.out.1])
           have HE3 : Hid (Ex w1.heap.size none w2 w3) := Lib.hid hed
           have hz3 : w2.heap.size ≤ w3.heap.size := hed.size
           clear hod hed hbd hrd hys1 hys2 hys3 hrow)
        | fail)
      obtain ⟨sl, hsl⟩ : ∃ sl, sl = l ++ ms := ⟨_, rfl⟩
      obtain ⟨sn2, hsn2⟩ : ∃ sn2, sn2 = sn + mn := ⟨_, rfl⟩
      have hs30 : sn2 ≤ 30 := by omega
      have HSLN : Hid (sl.length = sn2) := Lib.hid (by rw [hsl, List.length_append, HSN.out, HMN.out, hsn2])
      have HLI : Hid (LightL 9223372036854775807 sl) := Lib.hid (fun s hs => by
        rw [hsl] at hs
        rcases List.mem_append.1 hs with hs | hs
        · have := HLI0.out s hs; omega
        · exact HML.out s hs)
      have HLEN : Hid (sl.length ≤ 100000) := Lib.hid (by rw [HSLN.out]; omega)
      have HS3 : Hid (∀ q w', Ex w3.heap.size (some q) w3 w' → q = p → Sl stRep (fun b => b ≠ p) w' (.slice ao3 sn2 cap3) sl) := Lib.hid (fun q w' h hq => by
        have k := ownE_sl (P := fun b => b ≠ p) HO3.out HL3.out (fun b hb => by omega)
        rw [HMP.out, ← hsl, HSLN.out] at k
        exact k.keep (by decide) fun b hb hl => h.block b hl (fun e => by cases e; exact hb hq))
      rw [← hsn2]
      clear hsl hsn2
      have HD3 : Hid (DiceOK (p + 1) w3 p) := Lib.hid (HD2.out.1.keep HE3.out (by omega))
      go_upto_region 6 with (first
        | (go_at_call 15
           (fail_if_success (first | have _x := HDa | fail))
           refine (of_w (p + 1) p (.slice (some ⟨w3.heap.size, 0, none⟩) 5 5) [0, 3, -1, 64, 63] _ (HD3.out.keep (Ex.new w3 _) (by omega)) (IntsO.lit [0, 3, -1, 64, 63] rfl rfl (by omega)) (by simp) (by simp)).mono ?_
           rintro e wa ⟨y1, rfl, hy1, hd, hex⟩
           have HDa : Hid (DiceOK (p + 1) wa p ∧ Ex w3.heap.size (some p) w3 wa) := Lib.hid ⟨hd, (Ex.new w3 _).weaken (some p) |>.trans hex (by simp) (fun q e _ => e)⟩
           have HY1 : Hid (-1 ≤ y1 ∧ y1 ≤ 64) := Lib.hid (by simp at hy1; omega)
           have hza : w3.heap.size ≤ wa.heap.size := HDa.out.2.size
           clear hy1 hd hex)
        | (go_at_call 15
           refine (of_w (p + 1) p (.slice (some ⟨wa.heap.size, 0, none⟩) 4 4) [3, 5, 64, -1] _ (HDa.out.1.keep (Ex.new wa _) (by omega)) (IntsO.lit [3, 5, 64, -1] rfl rfl (by omega)) (by simp) (by simp)).mono ?_
           rintro e wb ⟨y2, rfl, hy2, hd, hex⟩
           have HDb : Hid (Ex w3.heap.size (some p) w3 wb) := Lib.hid ((HDa.out.2.trans (Ex.new wa _) hza (by simp)).trans hex (by simp; omega) (fun q e _ => e))
           have hzb : w3.heap.size ≤ wb.heap.size := HDb.out.size
           clear hy2 hd hex)
        | fail)
      obtain ⟨hb, hhb⟩ : ∃ hb, hb = wb.heap.size := ⟨_, rfl⟩
      obtain ⟨w4, hw4⟩ : ∃ w4 : World, w4 = wb.alloc (.cells #[.int .i64 y1, .int .i64 y2] 25) := ⟨_, rfl⟩
      have hz4 : w4.heap.size = hb + 1 := by rw [hw4, hhb]; simp
      have hhb0 : w.heap.size < hb := by omega
      have HB4 : Hid (w4.heap[hb]? = some (.cells #[.int .i64 y1, .int .i64 y2] 25 (0, 0))) := Lib.hid (by rw [hw4, hhb]; exact heap_alloc_new _ _)
      have HE4 : Hid (Ex w.heap.size none w w4) := Lib.hid (by
        have e1 : Ex w.heap.size none w w3 := (HE0.out.trans HD2.out.2 (by omega) (by simp)).trans HE3.out (by omega) (by simp)
        have e2 : Ex w.heap.size none w wb := e1.trans HDb.out (by omega) (fun q e hq => by cases e; omega)
        rw [hw4]; exact e2.alloc (by omega) _)
      have HR4 : Hid (∀ w', Ex w4.heap.size (some hb) w4 w' → w'.heap[w.heap.size]? = some (.cells #[.int .i64 ra, .int .i64 rb] 25 (0, 0))) := Lib.hid (fun w' h => by
        refine (h.block _ (by omega) (fun e => by cases e; omega)).trans ?_
        rw [hw4]
        refine ((Ex.new wb _).block _ (by omega) (by simp)).trans ?_
        refine (HDb.out.block _ (by omega) (fun e => by cases e; omega)).trans ?_
        refine (HE3.out.block _ (by omega) (by simp)).trans ?_
        exact (HD2.out.2.block _ (by omega) (by simp)).trans HB0.out)
      have HS4 : Hid (∀ w', Ex w4.heap.size (some hb) w4 w' → Sl stRep (fun _ => True) w' (.slice ao3 sn2 cap3) sl) := Lib.hid (fun w' h => by
        have k := (HS3.out p wb HDb.out rfl).mono (P' := fun b => b < hb) (by decide) (fun b _ hb' => by rw [hhb]; exact hb')
        refine (k.keep (by decide) (fun b h1 hl => (h.block b (by omega) (fun e => by cases e; omega)).trans ?_)).mono (by decide) fun _ _ _ => trivial
        rw [hw4]; exact (Ex.new wb _).block b (by omega) (by simp))
      rw [← hhb]
      rw [← hw4]
      clear hw4 hhb
      go_wp2_with (fail)
      go_loopw [10, 11, 12, 13, 14] (fun iv _ _ _ _ wr => ∃ (i : Nat) (h1 h2 : Int), iv = .int .i64 i ∧ i ≤ 2 ∧ (-9223372036854775808 ≤ h1 ∧ h1 ≤ 9223372036854775807) ∧ Hid (wr.heap[hb]? = some (.cells #[.int .i64 h1, .int .i64 h2] 25 (0, 0))) ∧ Ex w4.heap.size (some hb) w4 wr) (fun iv _ _ _ _ _ => 2 - (intOf iv).toNat)
      case atStart => exact ⟨0, y1, y2, rfl, by omega, by have := HY1.out; omega, HB4, Ex.refl _ _ _⟩
      case round =>
        obtain ⟨i, h1, h2, rfl, hi, hh1, HBH, hexi⟩ := hrel
        have hszi := hexi.size
        have HEI := Lib.hid hexi
        clear hexi
        by_cases hlt : i < 2
        · have hltI : (i : Int) < 2 := by omega
          obtain ⟨dk, da, db, er, hdv⟩ := draftV_form h1 h2
          have HDV := Lib.hid hdv
          clear hdv
          have HH1 := Lib.hid hh1
          have HCH : Hid (∀ w', Ex wr.heap.size none wr w' → w'.cell? ⟨hb, 0, none⟩ = some (.int .i64 h1) ∧ w'.cell? ⟨hb, 1, none⟩ = some (.int .i64 h2)) := Lib.hid (fun w' h => by
            have k := (h.block hb (by omega) (by simp)).trans HBH.out
            refine ⟨?_, ?_⟩ <;> (rw [cell_of_row _ _ _ _ _ _ k]; rfl))
          obtain ⟨c0, c1⟩ := HCH.out _ (Ex.refl _ _ wr)
          go_upto_region 10 with (first
            | (go_at_call 16
               refine (draftP35_any h1 h2 _).mono ?_
               rw [HDV.out]
               rintro e w5 ⟨rfl, hex⟩
               have HE5 : Hid (Ex wr.heap.size none wr w5) := Lib.hid hex
               have hz5 : wr.heap.size ≤ w5.heap.size := hex.size
               clear hex c0 c1)
            | fail)
          obtain ⟨w6, hw6⟩ : ∃ w6 : World, w6 = w5.alloc (.cells #[.int .i64 dk, .int .i64 da, .int .i64 db, .int .i64 0, .slice none 0 0, .slice none 0 0] 34) := ⟨_, rfl⟩
          have HE6 : Hid (Ex wr.heap.size none wr w6) := Lib.hid (by rw [hw6]; exact HE5.out.alloc hz5 _)
          have hz6 : w6.heap.size = w5.heap.size + 1 := by rw [hw6]; simp
          have HB6 : Hid (w6.heap[w5.heap.size]? = some (.cells #[.int .i64 dk, .int .i64 da, .int .i64 db, .int .i64 0, .slice none 0 0, .slice none 0 0] 34 (0, 0))) := Lib.hid (by rw [hw6]; exact heap_alloc_new _ _)
          rw [← hw6]
          clear hw6
          obtain ⟨c0, c1⟩ := HCH.out _ HE6.out
          go_upto_region 11 with (first
            | (go_at_call 17
               refine (draft35_any h1 h2 _).mono ?_
               rw [HDV.out]
               rintro e w7 ⟨rfl, hex⟩
               have HE7 : Hid (Ex w6.heap.size none w6 w7) := Lib.hid hex
               have hz7 : w6.heap.size ≤ w7.heap.size := hex.size
               clear hex c0 c1)
            | fail)
          obtain ⟨w8, hw8⟩ : ∃ w8 : World, w8 = w7.alloc (.cells #[.int .i64 dk, .int .i64 da, .int .i64 db, .int .i64 0, .slice none 0 0, .slice none 0 0] 34) := ⟨_, rfl⟩
          have hz8 : w8.heap.size = w7.heap.size + 1 := by rw [hw8]; simp
          have HE8 : Hid (Ex wr.heap.size none wr w8) := Lib.hid (by rw [hw8]; exact (HE6.out.trans HE7.out (by omega) (by simp)).alloc (by omega) _)
          have HB8 : Hid (w8.heap[w7.heap.size]? = some (.cells #[.int .i64 dk, .int .i64 da, .int .i64 db, .int .i64 0, .slice none 0 0, .slice none 0 0] 34 (0, 0)) ∧ w8.heap[w5.heap.size]? = some (.cells #[.int .i64 dk, .int .i64 da, .int .i64 db, .int .i64 0, .slice none 0 0, .slice none 0 0] 34 (0, 0))) := Lib.hid ⟨by rw [hw8]; exact heap_alloc_new _ _, by rw [hw8]; exact ((Ex.new w7 _).block _ (by omega) (by simp)).trans ((HE7.out.block _ (by omega) (by simp)).trans HB6.out)⟩
          have HQ8 : Hid (∀ w', Ex w8.heap.size none w8 w' → w'.cell? ⟨w5.heap.size, 0, none⟩ = some (.int .i64 dk) ∧ w'.cell? ⟨w5.heap.size, 1, none⟩ = some (.int .i64 da) ∧ w'.cell? ⟨w5.heap.size, 2, none⟩ = some (.int .i64 db) ∧ w'.cell? ⟨w5.heap.size, 3, none⟩ = some (.int .i64 0) ∧ w'.cell? ⟨w5.heap.size, 4, none⟩ = some (.slice none 0 0) ∧ w'.cell? ⟨w5.heap.size, 5, none⟩ = some (.slice none 0 0) ∧ w'.cell? ⟨w7.heap.size, 0, none⟩ = some (.int .i64 dk) ∧ w'.cell? ⟨w7.heap.size, 1, none⟩ = some (.int .i64 da) ∧ w'.cell? ⟨w7.heap.size, 2, none⟩ = some (.int .i64 db) ∧ w'.cell? ⟨w7.heap.size, 3, none⟩ = some (.int .i64 0) ∧ w'.cell? ⟨w7.heap.size, 4, none⟩ = some (.slice none 0 0) ∧ w'.cell? ⟨w7.heap.size, 5, none⟩ = some (.slice none 0 0) ∧ w'.cell? ⟨hb, 0, none⟩ = some (.int .i64 h1) ∧ w'.cell? ⟨hb, 1, none⟩ = some (.int .i64 h2)) := Lib.hid (fun w' h => by
            have k1 := (h.block _ (by omega) (by simp)).trans HB8.out.2
            have k2 := (h.block _ (by omega) (by simp)).trans HB8.out.1
            obtain ⟨e1, e2⟩ := HCH.out w' (HE8.out.trans h (by omega) (by simp))
            refine ⟨?_, ?_, ?_, ?_, ?_, ?_, ?_, ?_, ?_, ?_, ?_, ?_, e1, e2⟩ <;> first | (rw [cell_of_row _ _ _ _ _ _ k1]; rfl) | (rw [cell_of_row _ _ _ _ _ _ k2]; rfl))
          have HS8 : Hid (∀ w', Ex w8.heap.size none w8 w' → Sl stRep (fun _ => True) w' (.slice ao3 sn2 cap3) sl) := Lib.hid (fun w' h => HS4.out w' (HEI.out.trans ((HE8.out.trans h (by omega) (by simp)).weaken (some hb)) hszi (fun q e _ => e)))
          have ker : (er != er) = false := by simp
          rw [← hw8]
          clear hw8
          have hS8 := HQ8.out _ (Ex.refl _ _ w8)
          go_region_held3 (fun w' => w'.cell? ⟨w5.heap.size, 0, none⟩ = some (.int .i64 dk) ∧ w'.cell? ⟨w5.heap.size, 1, none⟩ = some (.int .i64 da) ∧ w'.cell? ⟨w5.heap.size, 2, none⟩ = some (.int .i64 db) ∧ w'.cell? ⟨w5.heap.size, 3, none⟩ = some (.int .i64 0) ∧ w'.cell? ⟨w5.heap.size, 4, none⟩ = some (.slice none 0 0) ∧ w'.cell? ⟨w5.heap.size, 5, none⟩ = some (.slice none 0 0) ∧ w'.cell? ⟨w7.heap.size, 0, none⟩ = some (.int .i64 dk) ∧ w'.cell? ⟨w7.heap.size, 1, none⟩ = some (.int .i64 da) ∧ w'.cell? ⟨w7.heap.size, 2, none⟩ = some (.int .i64 db) ∧ w'.cell? ⟨w7.heap.size, 3, none⟩ = some (.int .i64 0) ∧ w'.cell? ⟨w7.heap.size, 4, none⟩ = some (.slice none 0 0) ∧ w'.cell? ⟨w7.heap.size, 5, none⟩ = some (.slice none 0 0) ∧ w'.cell? ⟨hb, 0, none⟩ = some (.int .i64 h1) ∧ w'.cell? ⟨hb, 1, none⟩ = some (.int .i64 h2)) (exact HQ8.out _ (by repeat (first | with_reducible exact HXs.out | with_reducible exact HXu.out | with_reducible exact HXv.out | with_reducible exact HXa.out | with_reducible exact Ex.refl _ _ _ | with_reducible refine Ex.drew ?_)))
            (first
              | (go_at_call 18
                 refine (sameDraft_any dk da db _).mono ?_
                 rintro e wa ⟨rfl, hex⟩
                 have HXa : Hid (Ex w8.heap.size none w8 wa) := Lib.hid (((Ex.refl w8.heap.size none w8).drew).trans hex (Nat.le_refl _) (by simp))
                 have hza : w8.heap.size ≤ wa.heap.size := HXa.out.size
                 clear hex)
              | (go_at_call 20
                 refine (voicesX_any (.slice ao3 sn2 cap3) sl h1 h2 _ (HS8.out _ HXa.out) HLEN.out HLI.out HH1.out).mono ?_
                 rintro e wv ⟨va, vc, vn, rfl, hvn, hown, hex⟩
                 have HXv : Hid (Ex w8.heap.size none w8 wv) := Lib.hid (HXa.out.trans hex hza (by simp))
                 have HVI := Lib.hid (iE_ints hvn hown)
                 have hzv : wa.heap.size ≤ wv.heap.size := hex.size
                 clear hvn hown hex)
              | (go_at_call 21
                 refine (voices35_any (.slice ao3 sn2 cap3) sl h1 h2 _ (HS8.out _ HXv.out) HLEN.out HLI.out).mono ?_
                 rintro e wu ⟨ua, uc, un, rfl, hun, hown, hex⟩
                 have HXu : Hid (Ex w8.heap.size none w8 wu) := Lib.hid (HXv.out.trans hex (by omega) (by simp))
                 have HUI := Lib.hid (iE_ints hun hown)
                 have HVU := Lib.hid (HVI.out.keep hex (Nat.le_refl _))
                 have hzu : wv.heap.size ≤ wu.heap.size := hex.size
                 clear hun hown hex)
              | (go_at_call 19
                 refine (asB (sameInts_any (.slice va vn vc) (.slice ua un uc) (voicesL (onLost (votesG sl) h1) h2 64) (voicesL (onLost (votesG sl) h1) h2 64) _ HVU.out HUI.out (by have := voicesL_len (onLost (votesG sl) h1) h2 64; omega)) (decide_eq_true rfl)).mono ?_
                 rintro e ws ⟨rfl, hex⟩
                 have HXs : Hid (Ex w8.heap.size none w8 ws) := Lib.hid (HXu.out.trans hex (by omega) (by simp))
                 have hzs : wu.heap.size ≤ ws.heap.size := hex.size
                 clear hex)
              | fail)
          have HEs : Hid (Ex w4.heap.size (some hb) w4 ws) := Lib.hid (HEI.out.trans ((HE8.out.trans HXs.out (by omega) (by simp)).weaken (some hb)) hszi (fun q e _ => e))
          have hrb := ((HE8.out.trans HXs.out (by omega) (by simp)).block hb (by omega) (by simp)).trans HBH.out
          obtain ⟨r0, r1⟩ : ws.cell? ⟨w.heap.size, 0, none⟩ = some (.int .i64 ra) ∧ ws.cell? ⟨w.heap.size, 1, none⟩ = some (.int .i64 rb) := by
            have k := HR4.out _ HEs.out
            refine ⟨?_, ?_⟩ <;> (rw [cell_of_row _ _ _ _ _ _ k]; rfl)
          go_wp2_with (first | (refine wpList_store_rowTo rfl 25 (.tmp 9) (.tmp 76) rfl rfl hb #[.int .i64 ra, .int .i64 rb] (by rfl) (by rfl) 25 _ hrb Tryz.sizeHeir2 rfl (by simp [Value.oneCell']) ?_) | fail)
          go_roundw
          case rel => exact ⟨i + 1, ra, rb, by go_num, by omega, hra, Lib.hid (setRow_heap _ _ _ _ _ _ hrb), HEs.out.setRow _ _ (.inl rfl)⟩
          case measure => simp [intOf] <;> omega
        · have hltI : ¬ (i : Int) < 2 := by omega
          obtain ⟨w9, hw9⟩ : ∃ w9 : World, w9 = wr := ⟨_, rfl⟩
          subst hw9
          clear hlt
          have HS9 : Hid (∀ w', Ex w9.heap.size none w9 w' → Sl stRep (fun _ => True) w' (.slice ao3 sn2 cap3) sl) := Lib.hid (fun w' h => HS4.out w' (HEI.out.trans (h.weaken (some hb)) hszi (fun q e _ => e)))
          have HHS : Hid (heirsR sl (guardsTo sl 64) = heirsP (votesG sl) (guardsTo sl 64)) := Lib.hid (heirs_same fun g hg => (guardsTo_valid hg).1).symm
          have HHL := Lib.hid (heirs_len sl)
          go_wp2_with (first
            | (go_at_call 23
               refine (heirsP_any (.slice ao3 sn2 cap3) sl _ (HS9.out _ (Ex.refl _ _ w9)) HLEN.out HLI.out).mono ?_
               rintro e wa ⟨ha, hc, hn, rfl, hhn, hown, hex⟩
               have HSA := Lib.hid (own_heirs_slM hown hhn)
               have HXa : Hid (Ex w9.heap.size none w9 wa) := Lib.hid hex
               have hza : w9.heap.size ≤ wa.heap.size := hex.size
               clear hhn hown hex)
            | (go_at_call 24
               refine (heirs35_any (.slice ao3 sn2 cap3) sl _ (HS9.out _ HXa.out) HLEN.out HLI.out).mono ?_
               rintro e wb' ⟨ka, kc, kn, rfl, hkn, hown, hex⟩
               rw [HHS.out] at hkn hown
               have HSB := Lib.hid (own_heirs_slM hown hkn)
               have HXb : Hid (Ex w9.heap.size none w9 wb') := Lib.hid (HXa.out.trans hex hza (by simp))
               have HSC := Lib.hid (HSA.out.keep (by decide) fun b _ hb' => hex.block b hb' (by simp))
               have hzb' : wa.heap.size ≤ wb'.heap.size := hex.size
               clear hkn hown hex)
            | (go_at_call 22
               refine (asB (same35_any _ _ _ _ _ HSC.out HSB.out (by have := HHL.out; omega)) (decide_eq_true rfl)).mono ?_
               rintro e wc ⟨rfl, hex⟩
               have HXc : Hid (Ex w9.heap.size none w9 wc) := Lib.hid (HXb.out.trans hex (by omega) (by simp))
               have hzc : wb'.heap.size ≤ wc.heap.size := hex.size
               clear hex)
            | (go_at_call 20
               refine (voicesX_any (.slice ao3 sn2 cap3) sl 1 5 _ (HS9.out _ HXc.out) HLEN.out HLI.out (by omega)).mono ?_
               rintro e wv ⟨va, vc, vn, rfl, hvn, hown, hex⟩
               have HXv : Hid (Ex w9.heap.size none w9 wv) := Lib.hid (HXc.out.trans hex (by omega) (by simp))
               have HVI := Lib.hid (iE_ints hvn hown)
               have hzv : wc.heap.size ≤ wv.heap.size := hex.size
               clear hvn hown hex)
            | (go_at_call 21
               refine (voices35_any (.slice ao3 sn2 cap3) sl 1 5 _ (HS9.out _ HXv.out) HLEN.out HLI.out).mono ?_
               rintro e wu ⟨ua, uc, un, rfl, hun, hown, hex⟩
               have HXu : Hid (Ex w9.heap.size none w9 wu) := Lib.hid (HXv.out.trans hex (by omega) (by simp))
               have HUI := Lib.hid (iE_ints hun hown)
               have HVU := Lib.hid (HVI.out.keep hex (Nat.le_refl _))
               have hzu : wv.heap.size ≤ wu.heap.size := hex.size
               clear hun hown hex)
            | (go_at_call 19
               refine (asB (sameInts_any (.slice va vn vc) (.slice ua un uc) (voicesL (onLost (votesG sl) 1) 5 64) (voicesL (onLost (votesG sl) 1) 5 64) _ HVU.out HUI.out (by have := voicesL_len (onLost (votesG sl) 1) 5 64; omega)) (decide_eq_true rfl)).mono ?_
               rintro e ws ⟨rfl, hex⟩
               have HXs : Hid (Ex w9.heap.size none w9 ws) := Lib.hid (HXu.out.trans hex (by omega) (by simp))
               have hzs : wu.heap.size ≤ ws.heap.size := hex.size
               clear hex)
            | (go_at_call 12; refine (awake35_any _).mono ?_; rintro e wz ⟨rfl, hexz⟩)
            | fail)
          go_ret
          refine ⟨rfl, Ex.below ?_⟩
          have e1 : Ex w.heap.size none w w9 := HE4.out.trans HEI.out (by omega) (fun q e hq => by cases e; omega)
          exact (e1.trans HXs.out (by omega) (by simp)).trans hexz (by omega) (by simp)
    · have h10I : (10 : Int) < (mn : Int) := by omega
      have h10d : decide ((10 : Int) < (mn : Int)) = true := decide_eq_true h10I
      clear HMX HML HMN
      go_enter Tryz.func3, Tryz.ntmps3
      go_wp2_with (first
        | (go_at_call 11; refine (light_any _ _ _ _).mono ?_; rintro e w' ⟨rfl, rfl⟩)
        | (go_at_call 12; refine (awake35_any _).mono ?_; rintro e w1 ⟨rfl, hex⟩))
      go_ret
      exact ⟨rfl, ((Ex.new w _).trans hex (by simp) (by simp)).below⟩
  · have hmI : ¬ (L.length : Int) ≤ 400 := by omega
    have hmd : decide ((L.length : Int) ≤ 400) = false := decide_eq_false hmI
    clear hmI
    clear HMX HML HMN
    go_enter Tryz.func3, Tryz.ntmps3
    go_wp2_with (first
      | (go_at_call 11; refine (light_any _ _ _ _).mono ?_; rintro e w' ⟨rfl, rfl⟩)
      | (go_at_call 12; refine (awake35_any _).mono ?_; rintro e w1 ⟨rfl, hex⟩))
    go_ret
    exact ⟨rfl, ((Ex.new w _).trans hex (by simp) (by simp)).below⟩
end Go.Proofs.YtaghfcnpnfhacaaGreat

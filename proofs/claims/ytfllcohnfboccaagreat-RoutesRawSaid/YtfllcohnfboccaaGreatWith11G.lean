/- ref11.With at a graph that is right. No statement of the seat. -/
import Derived.Test.YtfllcohnfboccaaGreatMg06
import Derived.Test.YtfllcohnfboccaaGreatSeal03G
import Derived.Great.BuildSlice
namespace Go.Proofs.YtfllcohnfboccaaGreat
open Go.RowKit Go.Sort

theorem drop_src {P : Nat → Prop} {w : World} {ao : Option Addr} {xs : List EdD} (h : SlAt edRep P w ao xs) (k c : Nat) (hk : k ≤ xs.length) (hc : xs.length ≤ c) :
    (xs.drop k).length = 0 ∨ ∃ ad, (if c = k then ao else ao.map (fun x => x.add (k * 3))) = some ad ∧ ∀ (j : Nat) (v : Value), (flatL edE (xs.drop k))[j]? = some v → w.cell? (ad.add j) = some v := by
  by_cases e : k = xs.length
  · exact .inl (by rw [List.length_drop]; omega)
  · obtain ⟨b, off, _, e2, _⟩ := h 0 (by omega)
    subst e2
    rw [if_neg (by omega)]
    have h2 := val_cells (hk := edE_len) (h1 := one_edE) (by decide) (h.drop k)
    rcases h2 with h2 | ⟨ad, e3, h3⟩
    · exact .inl h2
    · refine .inr ⟨ad, ?_, h3⟩
      rw [← e3]
      show some ((⟨b, off, none⟩ : Addr).add (k * 3)) = _
      rw [Addr.add_lit]
      rfl
theorem befE_tri {x : EdD} {f t l : Int} (h : befE x (f, t, 0) = false) (hne : ¬ (x.1 = f ∧ x.2.1 = t)) : befE (f, t, l) x = true := by
  simp only [befE, Bool.or_eq_false_iff, Bool.and_eq_false_iff, decide_eq_false_iff_not, Bool.or_eq_true, Bool.and_eq_true, decide_eq_true_eq] at *
  omega
theorem befE_lev {x : EdD} {f t l : Int} (h : befE x (f, t, 0) = true) : befE x (f, t, l) = true := h
/-- Edges with one more. -/
def insE (es : List EdD) (k : Nat) (e : EdD) : List EdD := es.take k ++ [e] ++ es.drop k
theorem insE_len {es : List EdD} {k : Nat} {e : EdD} (hk : k ≤ es.length) : (insE es k e).length = es.length + 1 := by simp [insE]; omega
theorem mem_insE {es : List EdD} {k : Nat} {e x : EdD} : x ∈ insE es k e ↔ x = e ∨ x ∈ es := by
  unfold insE
  rw [List.append_assoc, List.mem_append, List.mem_append, List.mem_singleton]
  conv => rhs; rhs; rw [← List.take_append_drop k es, List.mem_append]
  constructor
  · rintro (h | h | h)
    · exact .inr (.inl h)
    · exact .inl h
    · exact .inr (.inr h)
  · rintro (h | h | h)
    · exact .inr (.inl h)
    · exact .inl h
    · exact .inr (.inr h)
theorem insE_get {es : List EdD} {k : Nat} {e : EdD} (hk : k ≤ es.length) (i : Nat) : (insE es k e)[i]? = if i < k then es[i]? else if i = k then some e else es[i - 1]? := by
  unfold insE
  have hl : (es.take k).length = k := by rw [List.length_take]; omega
  rw [List.append_assoc]
  by_cases h1 : i < k
  · rw [if_pos h1, List.getElem?_append_left (by omega), List.getElem?_take, if_pos h1]
  · rw [if_neg h1, List.getElem?_append_right (by omega), hl]
    by_cases h2 : i = k
    · rw [if_pos h2, h2, Nat.sub_self]; rfl
    · rw [if_neg h2]
      obtain ⟨j, hj⟩ : ∃ j, i - k = j + 1 := ⟨i - k - 1, by omega⟩
      rw [hj]
      show (es.drop k)[j]? = _
      rw [List.getElem?_drop]
      congr 1
      omega
theorem GrOK.ins {sz : Int} {es : List EdD} {gone : List Int} (h : GrOK sz es gone) {f t l : Int} {k : Nat} (hi : IdxE es f t k false) (hf : 0 ≤ f ∧ f < sz) (ht : 0 ≤ t ∧ t < sz) (hl : 1 ≤ l ∧ l ≤ 3) (hne : f ≠ t) (g1 : hasI gone f = false) (g2 : hasI gone t = false) (hlen : es.length < 400) : GrOK sz (insE es k (f, t, l)) gone where
  size := h.size
  len := by rw [insE_len hi.le]; omega
  edge := fun e he => by
    rcases mem_insE.1 he with rfl | he
    · exact ⟨⟨hf, ht⟩, hne, hl, g1, g2⟩
    · exact h.edge e he
  sorted := fun i a b ha hb => by
    rw [insE_get hi.le] at ha hb
    by_cases h1 : i + 1 < k
    · rw [if_pos (by omega)] at ha
      rw [if_pos h1] at hb
      exact h.sorted i a b ha hb
    · by_cases h2 : i + 1 = k
      · rw [if_pos (by omega)] at ha
        rw [if_neg (by omega), if_pos h2] at hb
        cases hb
        exact befE_lev (hi.low i a (by omega) ha)
      · by_cases h3 : i = k
        · subst h3
          rw [if_neg (by omega), if_pos rfl] at ha
          rw [if_neg (by omega), if_neg (by omega), Nat.add_sub_cancel] at hb
          cases ha
          obtain ⟨q1, q2⟩ := hi.here b hb
          refine befE_tri q1 fun hq => ?_
          rw [decide_eq_true hq.1, decide_eq_true hq.2] at q2
          cases q2
        · rw [if_neg (by omega), if_neg h3] at ha
          rw [if_neg (by omega), if_neg (by omega), Nat.add_sub_cancel] at hb
          obtain ⟨j, rfl⟩ : ∃ j, i = j + 1 := ⟨i - 1, by omega⟩
          rw [Nat.add_sub_cancel] at ha
          exact h.sorted j a b ha hb
  gone := h.gone
/-- What With gives. -/
def WithPost (sz : Int) (en gn : Nat) (es : List EdD) (gone : List Int) (f t l : Int) (w : World) (e : Ending) (w' : World) : Prop :=
  ((∃ E : Int, E ≠ 0 ∧ e = .returned (.tuple #[.agg #[.int .i64 0, .slice none 0 0, .slice none 0 0], .int .i64 E]) ∧ (f = t ∨ hasI gone f = true ∨ hasI gone t = true ∨ ∃ x ∈ es, x.1 = f ∧ x.2.1 = t)) ∨
   (∃ (eo' : Option Addr) (ec' : Nat) (go' : Option Addr) (gc' : Nat) (es' : List EdD), e = .returned (.tuple #[.agg #[.int .i64 sz, .slice eo' (en + 1) ec', .slice go' gn gc'], .int .i64 0]) ∧ es'.length = en + 1 ∧ GrOK sz es' gone ∧ (∀ x, x ∈ es' ↔ x = (f, t, l) ∨ x ∈ es) ∧ OwnE edE 3 105 w' w.heap.size eo' ec' es' ∧ OwnI w' w.heap.size go' gc' gone)) ∧ Ex w.heap.size none w w'
set_option maxHeartbeats 16000000 in
set_option maxRecDepth 100000 in
theorem with11_any {P : Nat → Prop} (sz : Int) (eo : Option Addr) (en ec : Nat) (go : Option Addr) (gn gc : Nat) (es : List EdD) (gone : List Int) (f t l : Int) (w : World) (h : SlAt edRep P w eo es) (hn : es.length = en) (hec : en ≤ ec) (hg : IntsAt w go gone) (hgn : gone.length = gn) (hG : GrOK sz es gone) (hf : 0 ≤ f ∧ f < sz) (ht : 0 ≤ t ∧ t < sz) (hl : 1 ≤ l ∧ l ≤ 3) (hen : en ≤ 300) :
    Calls Tryz.prog 75 #[.agg #[.int .i64 sz, .slice eo en ec, .slice go gn gc], .agg #[.int .i64 f, .int .i64 t, .int .i64 l]] w (WithPost sz en gn es gone f t l w) := by
  have HX := Lib.hid h
  have HN := Lib.hid hn
  have HI := Lib.hid hg
  have HGN := Lib.hid hgn
  have HG := Lib.hid hG
  have HF := Lib.hid hf
  have HT := Lib.hid ht
  have HL := Lib.hid hl
  have hgn1 : gn ≤ 1 := by rw [← hgn]; exact hG.gone.1
  have d1 : decide (f < 0) = false := decide_eq_false (by omega)
  have d2 : decide (sz ≤ f) = false := decide_eq_false (by omega)
  have d3 : decide (t < 0) = false := decide_eq_false (by omega)
  have d4 : decide (sz ≤ t) = false := decide_eq_false (by omega)
  have d6 : decide (l < 1) = false := decide_eq_false (by omega)
  have d7 : decide ((3 : Int) < l) = false := decide_eq_false (by omega)
  have d8 : ((en : Int) == 500) = false := by simp; omega
  have d9 : (en == 500) = false := by simp; omega
  clear h hn hg hgn hG hf ht hl
  go_enter Tryz.func75, Tryz.ntmps75
  go_upto_region 1 with (fail)
  obtain ⟨w1, hw1⟩ : ∃ w1 : World, w1 = ((w.alloc (.cells #[.int .i64 sz, .slice eo en ec, .slice go gn gc] 64)).alloc (.cells #[.int .i64 f, .int .i64 t, .int .i64 l] 105)).alloc (.cells #[.int .i64 0, .slice none 0 0, .slice none 0 0] 64) := ⟨_, rfl⟩
  have HE1 : Hid (Ex w.heap.size none w w1) := Lib.hid (by rw [hw1]; exact (ex_two0 _ _).alloc (by simp; omega) _)
  have hz1 : w.heap.size + 3 ≤ w1.heap.size := by rw [hw1]; simp
  have k1 : w1.heap[w.heap.size]? = some (.cells #[.int .i64 sz, .slice eo en ec, .slice go gn gc] 64 (0, 0)) := by
    rw [hw1, (Ex.new _ _).block w.heap.size (by simp; omega) (by simp)]
    exact heap_alloc2_old _ _ _
  have k2 : w1.heap[w.heap.size + 1]? = some (.cells #[.int .i64 f, .int .i64 t, .int .i64 l] 105 (0, 0)) := by
    rw [hw1, (Ex.new _ _).block (w.heap.size + 1) (by simp) (by simp)]
    exact heap_alloc2_new _ _ _
  have HB1 : Hid (w1.heap[w.heap.size + 1 + 1]? = some (.cells #[.int .i64 0, .slice none 0 0, .slice none 0 0] 64 (0, 0))) := Lib.hid (by
    rw [hw1]
    have h := heap_alloc_new ((w.alloc (.cells #[.int .i64 sz, .slice eo en ec, .slice go gn gc] 64)).alloc (.cells #[.int .i64 f, .int .i64 t, .int .i64 l] 105)) (.cells #[.int .i64 0, .slice none 0 0, .slice none 0 0] 64)
    rw [World.size_alloc, World.size_alloc] at h
    exact h)
  have HC : Hid (∀ w', Ex (w.heap.size + 1 + 1) none w1 w' → w'.cell? ⟨w.heap.size, 0, none⟩ = some (.int .i64 sz) ∧ w'.cell? ⟨w.heap.size, 1, none⟩ = some (.slice eo en ec) ∧ w'.cell? ⟨w.heap.size, 2, none⟩ = some (.slice go gn gc) ∧ w'.cell? ⟨w.heap.size + 1, 0, none⟩ = some (.int .i64 f) ∧ w'.cell? ⟨w.heap.size + 1, 1, none⟩ = some (.int .i64 t) ∧ w'.cell? ⟨w.heap.size + 1, 2, none⟩ = some (.int .i64 l)) := Lib.hid (fun w' h => by
    have q1 := (h.block w.heap.size (by omega) (by simp)).trans k1
    have q2 := (h.block (w.heap.size + 1) (by omega) (by simp)).trans k2
    refine ⟨?_, ?_, ?_, ?_, ?_, ?_⟩
    iterate 3 (rw [cell_of_row _ _ _ _ _ _ q1]; rfl)
    iterate 3 (rw [cell_of_row _ _ _ _ _ _ q2]; rfl))
  have HXW : Hid (∀ w', Ex w1.heap.size none w1 w' → SlAt edRep P w' eo es ∧ IntsAt w' go gone) := Lib.hid (fun w' h => ⟨HX.out.keep (by decide) fun b _ hb => (h.block b (by omega) (by simp)).trans (HE1.out.block b hb (by simp)), HI.out.keep (HE1.out.trans h (by omega) (by simp)) (Nat.le_refl _) (by simp)⟩)
  rw [← hw1]
  clear hw1 k1 k2
  obtain ⟨c0, c1, c2, c3, c4, c5⟩ := HC.out _ (Ex.refl _ _ w1)
  go_wp2_with fail
  refine (check11_ok sz eo en ec go gn gc es gone w1 (HXW.out _ (Ex.refl _ _ _)).1 HN.out (HXW.out _ (Ex.refl _ _ _)).2 HGN.out HG.out).mono ?_
  rintro e w2 ⟨rfl, hex⟩
  have HE2 := Lib.hid hex
  have hz2 := hex.size
  clear hex c0 c1 c2 c3 c4 c5
  obtain ⟨c0, c1, c2, c3, c4, c5⟩ := HC.out _ (HE2.out.mono (by omega))
  go_wp2_with fail
  refine (index11_any sz eo en ec go gn gc es f t w2 (HXW.out _ HE2.out).1 HN.out (by omega)).mono ?_
  rintro e w3 ⟨k, th, rfl, hidx, hex⟩
  have HIX := Lib.hid hidx
  have HE3 : Hid (Ex w1.heap.size none w1 w3) := Lib.hid (HE2.out.trans hex hz2 (by simp))
  have hz3 : w1.heap.size ≤ w3.heap.size := HE3.out.size
  have hken : k ≤ en := by rw [← HN.out]; exact hidx.le
  have HB3 : Hid (w3.heap[w.heap.size + 1 + 1]? = some (.cells #[.int .i64 0, .slice none 0 0, .slice none 0 0] 64 (0, 0))) := Lib.hid ((HE3.out.block _ (by omega) (by simp)).trans HB1.out)
  have HHS : Hid (∀ x, Calls Tryz.prog 88 #[.slice go gn gc, .int .i64 x] w3 fun e w' => e = .returned (.bool (hasI gone x)) ∧ w3 = w') := Lib.hid (fun x => has11_any _ gone x w3 ⟨go, gc, by rw [HGN.out], (HXW.out _ HE3.out).2⟩ (by rw [HGN.out]; omega))
  clear hidx hex c0 c1 c2 c3 c4 c5
  obtain ⟨c0, c1, c2, c3, c4, c5⟩ := HC.out _ (HE3.out.mono (by omega))
  have HEW : Hid (Ex w.heap.size none w w3) := Lib.hid (HE1.out.trans HE3.out (by omega) (by simp))
  by_cases hft : f = t
  · have d5 : (f == t) = true := by simpa using hft
    have HFT := Lib.hid hft
    clear hft
    go_wp2_with (first
      | (refine wpList_store_rowTo rfl 64 (.tmp 4) (.tmp 66) rfl rfl (w.heap.size + 1 + 1) #[.int .i64 0, .slice none 0 0, .slice none 0 0] (by rfl) (by rfl) 64 _ HB3.out Tryz.sizeGr rfl (by simp [Value.oneCell']) ?_)
      | fail)

    have hr := run_loadVar_row (P := Tryz.prog) _ (w.heap.size + 1 + 1) 64 64 (#[.int .i64 0, .slice none 0 0, .slice none 0 0] : Array Value) (0, 0) _ (setRow_heap _ _ _ _ _ _ HB3.out) Tryz.underlying64 rfl Tryz.sizeGr
    refine bodyPost_ret (v := .tuple #[.agg #[.int .i64 0, .slice none 0 0, .slice none 0 0], .int .i64 4]) ?_ rfl ?_
    · rw [results_cell_tmp Tryz.results75]
      show ((loadVar 64 ⟨w.heap.size + 1 + 1, 0, none⟩).run Tryz.prog _).andThen _ = _
      rw [hr]
      rfl
    exact ⟨.inl ⟨4, by decide, rfl, .inl HFT.out⟩, HEW.out.setRow _ _ (.inr (by omega))⟩
  · have d5 : (f == t) = false := by simpa using hft
    have HNE := Lib.hid hft
    clear hft
    cases hgf : hasI gone f with
    | true =>
      go_wp2_with (first
        | (go_at_call 88; refine (HHS.out _).mono ?_; (rw [hgf]); rintro e w' ⟨rfl, rfl⟩)
        | (refine wpList_store_rowTo rfl 64 (.tmp 4) (.tmp 66) rfl rfl (w.heap.size + 1 + 1) #[.int .i64 0, .slice none 0 0, .slice none 0 0] (by rfl) (by rfl) 64 _ HB3.out Tryz.sizeGr rfl (by simp [Value.oneCell']) ?_)
        | fail)

      have hr := run_loadVar_row (P := Tryz.prog) _ (w.heap.size + 1 + 1) 64 64 (#[.int .i64 0, .slice none 0 0, .slice none 0 0] : Array Value) (0, 0) _ (setRow_heap _ _ _ _ _ _ HB3.out) Tryz.underlying64 rfl Tryz.sizeGr
      refine bodyPost_ret (v := .tuple #[.agg #[.int .i64 0, .slice none 0 0, .slice none 0 0], .int .i64 4]) ?_ rfl ?_
      · rw [results_cell_tmp Tryz.results75]
        show ((loadVar 64 ⟨w.heap.size + 1 + 1, 0, none⟩).run Tryz.prog _).andThen _ = _
        rw [hr]
        rfl
      exact ⟨.inl ⟨4, by decide, rfl, .inr (.inl hgf)⟩, HEW.out.setRow _ _ (.inr (by omega))⟩
    | false =>
      cases hgt : hasI gone t with
      | true =>
        go_wp2_with (first
          | (go_at_call 88; refine (HHS.out _).mono ?_; (first | rw [hgf] | rw [hgt]); rintro e w' ⟨rfl, rfl⟩)
          | (refine wpList_store_rowTo rfl 64 (.tmp 4) (.tmp 66) rfl rfl (w.heap.size + 1 + 1) #[.int .i64 0, .slice none 0 0, .slice none 0 0] (by rfl) (by rfl) 64 _ HB3.out Tryz.sizeGr rfl (by simp [Value.oneCell']) ?_)
          | fail)

        have hr := run_loadVar_row (P := Tryz.prog) _ (w.heap.size + 1 + 1) 64 64 (#[.int .i64 0, .slice none 0 0, .slice none 0 0] : Array Value) (0, 0) _ (setRow_heap _ _ _ _ _ _ HB3.out) Tryz.underlying64 rfl Tryz.sizeGr
        refine bodyPost_ret (v := .tuple #[.agg #[.int .i64 0, .slice none 0 0, .slice none 0 0], .int .i64 4]) ?_ rfl ?_
        · rw [results_cell_tmp Tryz.results75]
          show ((loadVar 64 ⟨w.heap.size + 1 + 1, 0, none⟩).run Tryz.prog _).andThen _ = _
          rw [hr]
          rfl
        exact ⟨.inl ⟨4, by decide, rfl, .inr (.inr (.inl hgt))⟩, HEW.out.setRow _ _ (.inr (by omega))⟩
      | false =>
        cases th with
        | true =>
          have HTH : Hid (∃ x ∈ es, x.1 = f ∧ x.2.1 = t) := Lib.hid (by
            cases hx : es[k]? with
            | none => have := HIX.out.none hx; cases this
            | some x =>
              have h := (HIX.out.here x hx).2
              refine ⟨x, List.mem_of_getElem? hx, ?_⟩
              have h := h.symm
              rw [Bool.and_eq_true, decide_eq_true_eq, decide_eq_true_eq] at h
              exact h)
          go_wp2_with (first
            | (go_at_call 88; refine (HHS.out _).mono ?_; (first | rw [hgf] | rw [hgt]); rintro e w' ⟨rfl, rfl⟩)
            | (refine wpList_store_rowTo rfl 64 (.tmp 4) (.tmp 79) rfl rfl (w.heap.size + 1 + 1) #[.int .i64 0, .slice none 0 0, .slice none 0 0] (by rfl) (by rfl) 64 _ HB3.out Tryz.sizeGr rfl (by simp [Value.oneCell']) ?_)
            | fail)

          have hr := run_loadVar_row (P := Tryz.prog) _ (w.heap.size + 1 + 1) 64 64 (#[.int .i64 0, .slice none 0 0, .slice none 0 0] : Array Value) (0, 0) _ (setRow_heap _ _ _ _ _ _ HB3.out) Tryz.underlying64 rfl Tryz.sizeGr
          refine bodyPost_ret (v := .tuple #[.agg #[.int .i64 0, .slice none 0 0, .slice none 0 0], .int .i64 19]) ?_ rfl ?_
          · rw [results_cell_tmp Tryz.results75]
            show ((loadVar 64 ⟨w.heap.size + 1 + 1, 0, none⟩).run Tryz.prog _).andThen _ = _
            rw [hr]
            rfl
          exact ⟨.inl ⟨19, by decide, rfl, .inr (.inr (.inr HTH.out))⟩, HEW.out.setRow _ _ (.inr (by omega))⟩
        | false =>
          have HIXF : Hid (IdxE es f t k false) := HIX
          have hgcap : (k : Int) ≤ (ec : Int) := by omega
          have g1 : (0 : Int) ≤ (k : Int) := by omega
          have g2 : (k : Int) ≤ (en : Int) := by omega
          have g3 : (en : Int) ≤ (ec : Int) := by omega
          go_upto_region 13 with (first
            | (go_at_call 88; refine (HHS.out _).mono ?_; (first | rw [hgf] | rw [hgt]); rintro e w' ⟨rfl, rfl⟩)
            | (go_at_call 119
               refine (copy11_any sz eo en ec go gn gc es gone w3 (HXW.out _ HE3.out).1 HN.out (HXW.out _ HE3.out).2 HGN.out (by omega) (by omega)).mono ?_
               rintro e w4 ⟨xo, xc, yo, yc, rfl, _, hown, hex⟩
               have HG4 := Lib.hid hown
               have HE4 : Hid (Ex w1.heap.size none w1 w4) := Lib.hid (HE3.out.trans hex hz3 (by simp))
               have hz4 : w1.heap.size ≤ w4.heap.size := HE4.out.size
               have hz34 : w3.heap.size ≤ w4.heap.size := hex.size
               clear hown hex c0 c1 c2 c3 c4 c5)
            | fail)
          obtain ⟨w5, hw5⟩ : ∃ w5 : World, w5 = w4.alloc (.cells #[.int .i64 sz, .slice xo en xc, .slice yo gn yc] 64) := ⟨_, rfl⟩
          have HE45 : Hid (Ex w4.heap.size none w4 w5) := Lib.hid (by rw [hw5]; exact Ex.new _ _)
          have hz5 : w4.heap.size + 1 ≤ w5.heap.size := by rw [hw5]; simp
          have HB5 : Hid (w5.heap[w4.heap.size]? = some (.cells #[.int .i64 sz, .slice xo en xc, .slice yo gn yc] 64 (0, 0))) := Lib.hid (by rw [hw5]; exact heap_alloc_new _ _)
          have HE5 : Hid (Ex w1.heap.size none w1 w5) := Lib.hid (HE4.out.trans HE45.out hz4 (by simp))
          have HG5 : Hid (OwnI w5 w3.heap.size yo yc gone) := Lib.hid (HG4.out.keep HE45.out (Nat.le_refl _) (by simp))
          rw [← hw5]
          clear hw5
          obtain ⟨a2, ha2⟩ : ∃ a2, (if ec = k then eo else eo.map (fun x => x.add (k * 3))) = a2 := ⟨_, rfl⟩
          have HSD : Hid (∀ w', Ex w1.heap.size none w1 w' → (es.drop k).length = 0 ∨ ∃ ad, a2 = some ad ∧ ∀ (j : Nat) (v : Value), (flatL edE (es.drop k))[j]? = some v → w'.cell? (ad.add j) = some v) := Lib.hid (fun w' hx => by
            have h := drop_src (HXW.out w' hx).1 k ec (by rw [HN.out]; exact hken) (by rw [HN.out]; exact hec)
            rw [ha2] at h
            exact h)
          have HST : Hid (∀ w', Ex w1.heap.size none w1 w' → (es.take k).length = 0 ∨ ∃ ad, eo = some ad ∧ ∀ (j : Nat) (v : Value), (flatL edE (es.take k))[j]? = some v → w'.cell? (ad.add j) = some v) := Lib.hid (fun w' hx => val_cells (hk := edE_len) (h1 := one_edE) (by decide) ((HXW.out w' hx).1.take k))
          have HTL : Hid ((es.take k).length = k) := Lib.hid (by rw [List.length_take, HN.out]; omega)
          have HDL : Hid ((es.drop k).length = en - k) := Lib.hid (by rw [List.length_drop, HN.out])
          go_region_held3 (fun w' => w'.cell? ⟨w.heap.size, 0, none⟩ = some (.int .i64 sz) ∧ w'.cell? ⟨w.heap.size, 1, none⟩ = some (.slice eo en ec) ∧ w'.cell? ⟨w.heap.size, 2, none⟩ = some (.slice go gn gc) ∧ w'.cell? ⟨w.heap.size + 1, 0, none⟩ = some (.int .i64 f) ∧ w'.cell? ⟨w.heap.size + 1, 1, none⟩ = some (.int .i64 t) ∧ w'.cell? ⟨w.heap.size + 1, 2, none⟩ = some (.int .i64 l))
            (first
              | exact HC.out _ (by (refine Ex.setCell ?_ _ none _ (.inr (by omega))); exact HEC.out.mono (by omega))
              | exact HC.out _ (HEC.out.mono (by omega))
              | exact HC.out _ (HEB.out.mono (by omega))
              | exact HC.out _ ((HEA.out.trans (Ex.new wa _) (by omega) (by simp)).mono (by omega))
              | exact HC.out _ (HEA.out.mono (by omega))
              | exact HC.out _ (HE5.out.drew.mono (by omega))
              | exact HC.out _ ((HE5.out.alloc (by omega) _).drew.mono (by omega))
              | exact HC.out _ ((HE5.out.alloc (by omega) _).mono (by omega))
              | exact HC.out _ (HE5.out.mono (by omega))
              | fail)
            (first
              | (refine step_appE (α := EdD) (P := Tryz.prog) rfl (.const (.slice none 0 0)) (.tmp 91) 62 105 (by rfl) Tryz.underlying62 (.agg #[.int .i64 0, .int .i64 0, .int .i64 0]) 3 24 Tryz.infoEdge rfl (by decide) (by decide) edE edE_len one_edE w5.heap.size none 0 0 [] rfl (by rfl) eo k ec (by rfl) (es.take k) HTL.out (OwnE.nil _ _ _ _ _) (HST.out _ HE5.out.drew) (by omega) (Nat.le_refl _) k (by omega) ?_
                 intro eo6 ec6 wa hown hex hb hr
                 have HEA : Hid (Ex w1.heap.size none w1 wa) := Lib.hid (HE5.out.drew.trans hex (by omega) (by simp))
                 have HEA5 : Hid (Ex w5.heap.size none w5 wa) := Lib.hid ((Ex.refl _ none w5).drew.trans hex (Nat.le_refl _) (by simp))
                 have HOA := Lib.hid hown
                 have hza : w5.heap.size ≤ wa.heap.size := HEA5.out.size
                 clear hown hex hb hr)
              | (refine step_appE (α := EdD) (P := Tryz.prog) rfl (.const (.slice none 0 0)) (.tmp 91) 62 105 (by rfl) Tryz.underlying62 (.agg #[.int .i64 0, .int .i64 0, .int .i64 0]) 3 24 Tryz.infoEdge rfl (by decide) (by decide) edE edE_len one_edE w5.heap.size none 0 0 [] rfl (by rfl) eo k ec (by rfl) (es.take k) HTL.out (OwnE.nil _ _ _ _ _) (HST.out _ (HE5.out.alloc (by omega) _).drew) (by omega) (by simp) k (by omega) ?_
                 intro eo6 ec6 wa hown hex hb hr
                 have HLB : Hid (∀ (j : Nat) (v : Value), (flatL edE [(f, t, l)])[j]? = some v → wa.cell? ((⟨w5.heap.size, 0, none⟩ : Addr).add j) = some v) := Lib.hid (fun j v hv => by
                   have hh : wa.heap[w5.heap.size]? = some (.cells #[.int .i64 f, .int .i64 t, .int .i64 l] 105 (0, 0)) := (hb _ (by simp) (by simp [rowOf])).trans (heap_alloc_new w5 _)
                   rw [Addr.add_lit, Nat.zero_add, cell_of_row _ _ _ _ _ _ hh]
                   have e : flatL edE [(f, t, l)] = [.int .i64 f, .int .i64 t, .int .i64 l] := rfl
                   rw [e] at hv
                   simpa using hv)
                 have HEA : Hid (Ex w1.heap.size none w1 wa) := Lib.hid ((HE5.out.alloc (by omega) _).drew.trans hex (by omega) (by simp))
                 have HEA5 : Hid (Ex w5.heap.size none w5 wa) := Lib.hid ((Ex.new w5 _).drew.trans hex (Nat.le_refl _) (by simp))
                 have HOA := Lib.hid hown
                 have hza : w5.heap.size ≤ wa.heap.size := HEA5.out.size
                 clear hown hex hb hr)
              | (refine step_appE (α := EdD) (P := Tryz.prog) rfl (.tmp 92) (.tmp 94) 62 105 (by rfl) Tryz.underlying62 (.agg #[.int .i64 0, .int .i64 0, .int .i64 0]) 3 24 Tryz.infoEdge rfl (by decide) (by decide) edE edE_len one_edE w5.heap.size eo6 ec6 k ([] ++ es.take k) (by rw [List.nil_append]; exact HTL.out) (by rfl) (some ⟨w5.heap.size, 0, none⟩) 1 1 (by rfl) [(f, t, l)] rfl HOA.out (.inr ⟨_, rfl, HLB.out⟩) (by omega) hza (k + 1) (by omega) ?_
                 intro eo7 ec7 wb hown hex hb hr
                 have HEB5 : Hid (Ex w5.heap.size none w5 wb) := Lib.hid (HEA5.out.trans hex (Nat.le_refl _) (by simp))
                 have HEB : Hid (Ex w1.heap.size none w1 wb) := Lib.hid (HE5.out.trans HEB5.out (by omega) (by simp))
                 have HOB := Lib.hid hown
                 have hzb : w5.heap.size ≤ wb.heap.size := HEB5.out.size
                 clear hown hex hb hr)
              | (refine step_appE (α := EdD) (P := Tryz.prog) rfl (.tmp 92) (.tmp 94) 62 105 (by rfl) Tryz.underlying62 (.agg #[.int .i64 0, .int .i64 0, .int .i64 0]) 3 24 Tryz.infoEdge rfl (by decide) (by decide) edE edE_len one_edE w5.heap.size eo6 ec6 k ([] ++ es.take k) (by rw [List.nil_append]; exact HTL.out) (by rfl) (some ⟨wa.heap.size, 0, none⟩) 1 1 (by rfl) [(f, t, l)] rfl (HOA.out.keep (Ex.new wa _) (Nat.le_refl _) (by simp)) (lit_cells (by rfl)) (by omega) (by simp; omega) (k + 1) (by omega) ?_
                 intro eo7 ec7 wb hown hex hb hr
                 have HEB5 : Hid (Ex w5.heap.size none w5 wb) := Lib.hid ((HEA5.out.trans (Ex.new wa _) hza (by simp)).trans hex (Nat.le_refl _) (by simp))
                 have HEB : Hid (Ex w1.heap.size none w1 wb) := Lib.hid (HE5.out.trans HEB5.out (by omega) (by simp))
                 have HOB := Lib.hid hown
                 have hzb : w5.heap.size ≤ wb.heap.size := HEB5.out.size
                 clear hown hex hb hr)
              | (refine step_appE (α := EdD) (P := Tryz.prog) rfl (.tmp 95) (.tmp 99) 62 105 (by rfl) Tryz.underlying62 (.agg #[.int .i64 0, .int .i64 0, .int .i64 0]) 3 24 Tryz.infoEdge rfl (by decide) (by decide) edE edE_len one_edE w5.heap.size eo7 ec7 (k + 1) ([] ++ es.take k ++ [(f, t, l)]) (by rw [List.nil_append, List.length_append, HTL.out]; rfl) (by rfl) a2 (en - k) (ec - k) (by rfl) (es.drop k) HDL.out HOB.out (HSD.out _ HEB.out) (by omega) hzb (en + 1) (by omega) ?_
                 intro eo8 ec8 wc hown hex hb hr
                 have HEC5 : Hid (Ex w5.heap.size none w5 wc) := Lib.hid (HEB5.out.trans hex (Nat.le_refl _) (by simp))
                 have HEC : Hid (Ex w1.heap.size none w1 wc) := Lib.hid (HE5.out.trans HEC5.out (by omega) (by simp))
                 have HOC := Lib.hid hown
                 have hb9 : wc.heap[w4.heap.size]? = some (.cells #[.int .i64 sz, .slice xo en xc, .slice yo gn yc] 64 (0, 0)) := (HEC5.out.block _ (by omega) (by simp)).trans HB5.out
                 have z0 : wc.cell? ⟨w4.heap.size, 0, none⟩ = some (.int .i64 sz) := (by rw [cell_of_row _ _ _ _ _ _ hb9]; rfl)
                 have z1 : wc.cell? ⟨w4.heap.size, 1, none⟩ = some (.slice xo en xc) := (by rw [cell_of_row _ _ _ _ _ _ hb9]; rfl)
                 have z2 : wc.cell? ⟨w4.heap.size, 2, none⟩ = some (.slice yo gn yc) := (by rw [cell_of_row _ _ _ _ _ _ hb9]; rfl)
                 have f1 := row_frozen (i := 1) hb9
                 have HB9 := Lib.hid hb9
                 clear hown hex hb9 hb hr)
              | fail)
          all_goals (
            obtain ⟨wd, hwd⟩ : ∃ wd : World, wd = wc.setCell ⟨w4.heap.size, 1, none⟩ (.slice eo8 (en + 1) ec8) := ⟨_, rfl⟩
            have HBD : Hid (wd.heap[w4.heap.size]? = some (.cells #[.int .i64 sz, .slice eo8 (en + 1) ec8, .slice yo gn yc] 64 (0, 0))) := Lib.hid (by rw [hwd, heap_setCell_same _ _ _ _ _ _ HB9.out]; rfl)
            have HOD : Hid (∀ b, b ≠ w4.heap.size → wd.heap[b]? = wc.heap[b]?) := Lib.hid (fun b hb => by rw [hwd]; exact Below.heap_setCell _ _ _ _ hb)
            have HED : Hid (Ex w1.heap.size none w1 wd) := Lib.hid (by rw [hwd]; exact Ex.setCell HEC.out _ none _ (.inr hz4))
            rw [← hwd]
            clear hwd z0 z1 z2 f1
            have y0 : wd.cell? ⟨w4.heap.size, 0, none⟩ = some (.int .i64 sz) := by rw [cell_of_row _ _ _ _ _ _ HBD.out]; rfl
            have y1 : wd.cell? ⟨w4.heap.size, 1, none⟩ = some (.slice eo8 (en + 1) ec8) := by rw [cell_of_row _ _ _ _ _ _ HBD.out]; rfl
            have y2 : wd.cell? ⟨w4.heap.size, 2, none⟩ = some (.slice yo gn yc) := by rw [cell_of_row _ _ _ _ _ _ HBD.out]; rfl
            have HBR : Hid (wd.heap[w.heap.size + 1 + 1]? = some (.cells #[.int .i64 0, .slice none 0 0, .slice none 0 0] 64 (0, 0))) := Lib.hid ((HED.out.block _ (by omega) (by simp)).trans HB1.out)
            go_wp2_with (refine wpList_store_rowTo rfl 64 (.tmp 4) (.tmp 102) rfl rfl (w.heap.size + 1 + 1) #[.int .i64 sz, .slice eo8 (en + 1) ec8, .slice yo gn yc] (by rfl) (by rfl) 64 _ HBR.out Tryz.sizeGr rfl (by simp [Value.oneCell']) ?_)
            have hr := run_loadVar_row (P := Tryz.prog) _ (w.heap.size + 1 + 1) 64 64 (#[.int .i64 sz, .slice eo8 (en + 1) ec8, .slice yo gn yc] : Array Value) (0, 0) _ (setRow_heap _ _ _ _ _ _ HBR.out) Tryz.underlying64 rfl Tryz.sizeGr
            refine bodyPost_ret (v := .tuple #[.agg #[.int .i64 sz, .slice eo8 (en + 1) ec8, .slice yo gn yc], .int .i64 0]) ?_ rfl ?_
            · rw [results_cell_tmp Tryz.results75]
              show ((loadVar 64 ⟨w.heap.size + 1 + 1, 0, none⟩).run Tryz.prog _).andThen _ = _
              rw [hr]
              rfl
            have hrow : ∀ b, w3.heap.size ≤ b → b ≠ w4.heap.size → (wd.setRow (w.heap.size + 1 + 1) #[.int .i64 sz, .slice eo8 (en + 1) ec8, .slice yo gn yc]).heap[b]? = wc.heap[b]? := fun b hb hne => (setRow_other _ _ _ _ (by omega)).trans (HOD.out b hne)
            refine ⟨.inr ⟨eo8, ec8, yo, yc, insE es k (f, t, l), rfl, by rw [insE_len (by rw [HN.out]; exact hken), HN.out], HG.out.ins HIXF.out HF.out HT.out HL.out HNE.out hgf hgt (by rw [HN.out]; omega), fun x => mem_insE, ?_, ?_⟩, (HE1.out.trans HED.out (by omega) (by simp)).setRow _ _ (.inr (by omega))⟩
            · have h := HOC.out
              rw [List.nil_append] at h
              exact (h.lower (show w.heap.size ≤ w5.heap.size by omega)).same2 fun b hb => by
                have hlt : w5.heap.size ≤ b := by
                  cases eo8 with
                  | none => cases hb
                  | some ad => simp [rowOf] at hb; have := (h.lt _ rfl).1; omega
                exact hrow b (by omega) (by omega)
            · have h := (HG5.out.keep HEC5.out (Nat.le_refl _) (by simp)).e
              have h4 := HG4.out.lt
              have h2 := (h.lower (show w.heap.size ≤ w3.heap.size by omega)).same2 (w' := wd.setRow (w.heap.size + 1 + 1) #[.int .i64 sz, .slice eo8 (en + 1) ec8, .slice yo gn yc]) fun b hb => by
                have hlt : w3.heap.size ≤ b ∧ b < w4.heap.size := by
                  cases yo with
                  | none => cases hb
                  | some ad => simp [rowOf] at hb; have := h4 _ rfl; omega
                exact hrow b hlt.1 (by omega)
              exact h2.i)
end Go.Proofs.YtfllcohnfboccaaGreat

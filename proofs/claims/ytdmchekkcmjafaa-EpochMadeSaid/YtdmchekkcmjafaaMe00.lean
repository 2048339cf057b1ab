/- ref05.Of: the statements of one author, a copy. No statement of the seat. | ref05.Counted: what counts of each author, one after another. No statement of the seat. | EpochMade: the plain laws of what counts. No statement of the seat. | ref05.before: by author, number and the digest's bytes. No statement of the seat. | ref05.put: a contract. No statement of the seat. -/
import Derived.Deep.Cut
import Derived.Test.YtdmchekkcmjafaaMg07
import Derived.Test.YtdmchekkcmjafaaMg11
import Derived.Test.YtdmchekkcmjafaaNext04G
import Derived.Test.YtdmchekkcmjafaaMg08
import Derived.Test.YtdmchekkcmjafaaSameListG
import Derived.BigQuiet
import Derived.Test.YtdmchekkcmjafaaRefOrderG
import Derived.Test.YtdmchekkcmjafaaMg09
namespace Go.Proofs.Ytdmchekkcmjafaa
open Go.RowKit Go.Sort

set_option maxHeartbeats 2000000 in
set_option maxRecDepth 100000 in
theorem of05_any {P : Nat → Prop} (ao : Option Addr) (cap : Nat) (l : List St) (a : Int) (w : World) (hx : SlAt stRep P w ao l) (hm : l.length ≤ 100000) (hl : LightL 1000000 l) :
    Calls Try.prog 41 #[.agg #[.slice ao l.length cap], .int .i64 a] w fun e w' => ∃ ro rc, e = .returned (.slice ro (l.filter (fun s => decide (s.author = a))).length rc) ∧ OwnS w' w.heap.size ro rc (l.filter (fun s => decide (s.author = a))) ∧ Ex w.heap.size none w w' := by
  have HL := Lib.hid hl
  obtain ⟨p, hp⟩ : ∃ p : St → Bool, p = (fun s => decide (s.author = a)) := ⟨_, rfl⟩
  have HP := Lib.hid hp
  rw [← hp]
  clear hl hp
  go_enter Try.func41, Try.ntmps41
  go_upto_region 2 with (fail)
  obtain ⟨w0, hw0⟩ : ∃ w0 : World, w0 = w.alloc (.cells #[.slice ao l.length cap] 42) := ⟨_, rfl⟩
  have hex0 : Ex w.heap.size none w w0 := by rw [hw0]; exact Ex.new w _
  have hz0 : w.heap.size < w0.heap.size := by rw [hw0]; simp
  have HB : Hid (w0.heap[w.heap.size]? = some (.cells #[.slice ao l.length cap] 42 (0, 0))) := Lib.hid (by rw [hw0]; exact heap_alloc_new w _)
  have hx0 := hx.keep (by decide) (fun b _ hb => hex0.block b hb (by simp))
  have HX0 := Lib.hid hx0
  have HE0 := Lib.hid hex0
  rw [← hw0]
  clear hw0 hx hx0 hex0
  go_wp2
  go_loopw [5, 6] (fun v i wr => ∃ (k : Nat) (ro : Option Addr) (rc : Nat), k ≤ l.length ∧ i = .int .i64 k ∧ v = .slice ro ((l.take k).filter p).length rc ∧ OwnS wr w0.heap.size ro rc ((l.take k).filter p) ∧ Ex w0.heap.size none w0 wr) (fun _ i _ => l.length - (intOf i).toNat)
  case atStart => exact ⟨0, none, 0, by omega, rfl, by simp, by simpa using OwnS.nil _ _, Ex.refl _ _ _⟩
  case round =>
    obtain ⟨k, ro, rc, hk, rfl, rfl, hown, hex⟩ := hrel
    have hle := filter_le (p := p) hk
    have hsz := hex.size
    have hbox : wr.cell? ⟨w.heap.size, 0, none⟩ = some (.slice ao l.length cap) := box_cell ((hex.block _ hz0 (by simp)).trans HB.out)
    by_cases hlt : k < l.length
    · have fx := HX0.out.keep (by decide) (fun b _ hb => hex.block b hb (by simp))
      obtain ⟨b, off, s, ⟨lo, ln, lc⟩, ⟨po, pn, pc⟩, rfl, _, hls, hr, HX⟩ := st_get fx k hlt
      have hc := st_at hr
      simp only [Sv.v] at hc
      obtain ⟨c0, c1, c2, c3, c4, c5, c6, c7, c8, c9, c10, c11, c12⟩ := hc
      have hm1 := HL.out.get HX.out
      have HLS := Lib.hid hls
      have HO := Lib.hid hown
      clear fx hr hls hown
      by_cases hp : s.author = a
      · have d1 : (s.author == a) = true := by simp [hp]
        have HK : Hid ((l.take (k + 1)).filter p = (l.take k).filter p ++ [s]) := filter_yes HX.out (by rw [HP.out]; simp [hp])
        clear hp
        go_wp2_with fail
        refine (copy03_lit s lo po ln lc pn pc _ HLS.out (by omega)).mono ?_
        rintro e w2 ⟨la, na, ca, pa, np, cp, rfl, hl2, hex2⟩
        have hs2 := hex2.size
        have HL2 := Lib.hid hl2
        clear hl2 hbox c0 c1 c2 c3 c4 c5 c6 c7 c8 c9 c10 c11 c12
        go_wp2_with (at_builtin; refine wpList_appS rfl (.tmp 22) (.tmp 29) _ rfl Try.underlying22 Try.infoSt w0.heap.size ro rc _ ((l.take k).filter p) rfl (by rfl) w2.heap.size (by rfl) (s, ⟨la, na, ca⟩, ⟨pa, np, cp⟩) (HO.out.keep (hex2.trans (Ex.new w2 _) hs2 (by simp)) (Nat.le_refl _)) (lit_st rfl) (lies_new HO.out HL2.out hsz) (by omega) (by simp <;> omega) ?_; intro ro' rc' w3 hown3 hex3)
        go_roundw
        case rel => exact ⟨k + 1, ro', rc', by omega, by go_num, by rw [HK.out, List.length_append]; rfl, by rw [HK.out]; exact hown3, (hex.trans hex2 hsz (by simp)).trans ((Ex.new w2 _).mono (show w0.heap.size ≤ w2.heap.size by omega) |>.trans hex3 (Nat.le_refl _) (by simp)) (Nat.le_refl _) (by simp)⟩
        case measure => simp [intOf] <;> omega
      · have d1 : (s.author == a) = false := by simp [hp]
        have HK : Hid ((l.take (k + 1)).filter p = (l.take k).filter p) := filter_no HX.out (by rw [HP.out]; simp [hp])
        clear hp
        go_wp2
        go_roundw
        case rel => exact ⟨k + 1, ro, rc, by omega, by go_num, by rw [HK.out], by rw [HK.out]; exact HO.out, hex⟩
        case measure => simp [intOf] <;> omega
    · obtain rfl : k = l.length := by omega
      rw [List.take_length] at hown ⊢
      have HEX := Lib.hid hex
      have HOW := Lib.hid hown
      clear hex hown
      go_wp2
      go_ret
      exact ⟨ro, rc, rfl, HOW.out.lower (by omega), HE0.out.trans HEX.out (by omega) (by simp)⟩
end Go.Proofs.Ytdmchekkcmjafaa

namespace Go.Proofs.Ytdmchekkcmjafaa
open Go.RowKit Go.Sort

/-- What counts of the authors below n. -/
def countedAll (l : List St) : Nat → List St
  | 0 => []
  | n + 1 => countedAll l n ++ countedI (n : Int) (l.filter (fun s => decide (s.author = (n : Int))))

set_option maxHeartbeats 4000000 in
set_option maxRecDepth 100000 in
theorem counted05_any {P : Nat → Prop} (ao : Option Addr) (cap : Nat) (l : List St) (w : World) (hx : SlAt stRep P w ao l) (hm : l.length ≤ 1000) (ht : TameL l) :
    Calls Try.prog 22 #[.agg #[.slice ao l.length cap]] w fun e w' => ∃ (ro : Option Addr) (rc k : Nat), e = .returned (.slice ro k rc) ∧ k = (countedAll l 64).length ∧ OwnS w' w.heap.size ro rc (countedAll l 64) ∧ Ex w.heap.size none w w' := by
  have HT := Lib.hid ht
  clear ht
  go_enter Try.func22, Try.ntmps22
  go_upto_region 2 with (fail)
  obtain ⟨w0, hw0⟩ : ∃ w0 : World, w0 = w.alloc (.cells #[.slice ao l.length cap] 42) := ⟨_, rfl⟩
  have hex0 : Ex w.heap.size none w w0 := by rw [hw0]; exact Ex.new w _
  have hz0 : w.heap.size < w0.heap.size := by rw [hw0]; simp
  have HB : Hid (w0.heap[w.heap.size]? = some (.cells #[.slice ao l.length cap] 42 (0, 0))) := Lib.hid (by rw [hw0]; exact heap_alloc_new w _)
  have hx0 := hx.keep (by decide) (fun b _ hb => hex0.block b hb (by simp))
  have HX0 := Lib.hid hx0
  have HE0 := Lib.hid hex0
  rw [← hw0]
  clear hw0 hx hx0 hex0
  go_wp2
  go_loopw [3, 4] (fun v i wr => ∃ (j k : Nat) (ro : Option Addr) (rc : Nat), i = .int .i64 j ∧ v = .slice ro k rc ∧ Hid ((countedAll l j).length = k) ∧ j ≤ 64 ∧ k ≤ j * 1000 ∧ Hid (OwnS wr w0.heap.size ro rc (countedAll l j)) ∧ Ex w0.heap.size none w0 wr) (fun _ i _ => 64 - (intOf i).toNat)
  case atStart => exact ⟨0, 0, none, 0, rfl, rfl, Lib.hid rfl, by omega, by omega, Lib.hid (OwnS.nil _ _), Ex.refl _ _ _⟩
  case round =>
    obtain ⟨j, k, ro, rc, rfl, rfl, HK, hj, hk, HO, hex⟩ := hrel
    have hsz := hex.size
    have hbox : wr.cell? ⟨w.heap.size, 0, none⟩ = some (.slice ao l.length cap) := box_cell ((hex.block _ hz0 (by simp)).trans HB.out)
    by_cases h0 : j < 64
    · have h0I : (j : Int) < 64 := by omega
      obtain ⟨lf, hlf⟩ : ∃ lf, lf = l.filter (fun s => decide (s.author = (j : Int))) := ⟨_, rfl⟩
      obtain ⟨kf, hkf⟩ : ∃ kf, kf = lf.length := ⟨_, rfl⟩
      obtain ⟨lc, hlc⟩ : ∃ lc, lc = countedI (j : Int) lf := ⟨_, rfl⟩
      obtain ⟨kc, hkc⟩ : ∃ kc, kc = lc.length := ⟨_, rfl⟩
      have hkf2 : kf ≤ 1000 := by have := List.length_filter_le (fun s => decide (s.author = (j : Int))) l; rw [hkf, hlf]; omega
      have hkc2 : kc ≤ 1000 := by have := countedI_len (j : Int) lf; rw [hkc, hlc]; omega
      have HLF := Lib.hid hlf
      have HLC := Lib.hid hlc
      have HKC := Lib.hid hkc
      have HOC : Hid (Calls Try.prog 41 #[.agg #[.slice ao l.length cap], .int .i64 (j : Int)] wr fun e w' => ∃ ro rc, e = .returned (.slice ro kf rc) ∧ OwnS w' wr.heap.size ro rc lf ∧ Ex wr.heap.size none wr w') := Lib.hid (by
        rw [hkf, hlf]
        exact of05_any ao cap l j wr (HX0.out.keep (by decide) (fun b _ hb => hex.block b hb (by simp))) (by omega) HT.out.light)
      have HCC : Hid (∀ (w2 : World) (r2 : Option Addr) (c2 : Nat), OwnS w2 wr.heap.size r2 c2 lf → Calls Try.prog 40 #[.int .i64 (j : Int), .slice r2 kf c2] w2 fun e w' => ∃ ro rc, e = .returned (.slice ro kc rc) ∧ OwnS w' w2.heap.size ro rc lc ∧ Ex w2.heap.size none w2 w') := Lib.hid (fun w2 r2 c2 h => by
        rw [hkc, hlc, hkf]
        exact counted04_any (.slice r2 lf.length c2) lf j w2 h.sl (by omega) (fun s hs => HT.out s (by rw [hlf] at hs; exact (List.mem_filter.1 hs).1)))
      have HEX := Lib.hid hex
      clear hlf hkf hlc hkc hex
      go_wp2_with (first
        | (go_at_call 41
           refine HOC.out.mono ?_
           rintro e w2 ⟨r2, c2, rfl, hown, hex2⟩
           have H2 : Hid (OwnS w2 wr.heap.size r2 c2 lf ∧ Ex wr.heap.size none wr w2) := Lib.hid ⟨hown, hex2⟩
           have hz2 : wr.heap.size ≤ w2.heap.size := hex2.size
           clear hown hex2)
        | (go_at_call 40
           refine (HCC.out w2 r2 c2 H2.out.1).mono ?_
           rintro e w3 ⟨r3, c3, rfl, hown, hex3⟩
           obtain ⟨xs, a2, hxs, hlies, hs1, _, _, _, _⟩ := hown.t.parts kc (by rw [HKC.out]; exact Nat.le_refl _)
           have H3 : Hid (xs.map (·.1) = lc ∧ (∀ x ∈ xs, Lies (fun b => w2.heap.size ≤ b ∧ rowOf r3 ≠ some b) w3 x) ∧ Src w3 r3 (xs.take kc) ∧ Ex wr.heap.size none wr w3) := Lib.hid ⟨hxs, hlies, hs1, H2.out.2.trans hex3 hz2 (by simp)⟩
           have hz3 : wr.heap.size ≤ w3.heap.size := H3.out.2.2.2.size
           have HO3 : Hid (OwnS w3 w0.heap.size ro rc (countedAll l j)) := Lib.hid (HO.out.keep H3.out.2.2.2 (Nat.le_refl _))
           have HXL : Hid (xs.take kc = xs) := Lib.hid (List.take_of_length_le (by rw [HKC.out, ← hxs]; simp))
           clear hxs hlies hs1 hown hex3)
        | (at_builtin; refine wpList_appT rfl (.tmp 9) (.tmp 14) _ (by rfl) Try.underlying22 Try.infoSt w0.heap.size w0.heap.size ro rc k (countedAll l j) HK.out (by rfl) r3 kc c3 (by rfl) (xs.take kc) (by rw [HXL.out, HKC.out, ← H3.out.1]; simp) HO3.out.t H3.out.2.2.1 (fun x hx => (H3.out.2.1 x (List.mem_of_mem_take hx)).mono fun b h _ => ⟨by omega, fun e => by have := HO.out.t.row b e; omega⟩) (by omega) (by omega) (k + kc) rfl ?_; intro ao4 cap4 w4 hod hed hbd hrd; have H4 : Hid (OwnS w4 w0.heap.size ao4 cap4 (countedAll l j ++ lc) ∧ Ex w0.heap.size none w3 w4) := Lib.hid ⟨by rw [HXL.out, H3.out.1] at hod; exact hod, hed⟩; clear hod hed hbd hrd)
        | fail)
      have HCA : Hid (countedAll l (j + 1) = countedAll l j ++ lc) := Lib.hid (by rw [HLC.out, HLF.out]; rfl)
      go_roundw
      case rel => exact ⟨j + 1, k + kc, ao4, cap4, by go_num, rfl, Lib.hid (by rw [HCA.out, List.length_append, HK.out, ← HKC.out]), by omega, by omega, Lib.hid (by rw [HCA.out]; exact H4.out.1), (HEX.out.trans H3.out.2.2.2 hsz (by simp)).trans H4.out.2 (by omega) (by simp)⟩
      case measure => simp [intOf] <;> omega
    · have h0I : ¬ (j : Int) < 64 := by omega
      have h64 : Hid (j = 64) := Lib.hid (by omega)
      have HEX := Lib.hid hex
      clear hex
      go_wp2
      go_ret
      exact ⟨ro, rc, k, rfl, by rw [← HK.out, h64.out], by rw [← h64.out]; exact HO.out.lower (by omega), HE0.out.trans HEX.out (by omega) (by simp)⟩
end Go.Proofs.Ytdmchekkcmjafaa

namespace Go.Proofs.Ytdmchekkcmjafaa
open Go.RowKit Go.Sort

theorem mem_countedI {a : Int} {l : List St} {s : St} (h : s ∈ countedI a l) : s ∈ l := (mem_ownI (List.mem_of_mem_take h)).1
theorem mem_countedAll {l : List St} {s : St} : ∀ {n : Nat}, s ∈ countedAll l n → s ∈ l
  | 0, h => by cases h
  | n + 1, h => by
    rcases List.mem_append.1 h with h | h
    · exact mem_countedAll h
    · exact (List.mem_filter.1 (mem_countedI h)).1
theorem countedAll_len (l : List St) : ∀ n : Nat, (countedAll l n).length ≤ n * l.length
  | 0 => by simp [countedAll]
  | n + 1 => by
    have h1 := countedAll_len l n
    have h2 := countedI_len (n : Int) (l.filter (fun s => decide (s.author = (n : Int))))
    have h3 := List.length_filter_le (fun s => decide (s.author = (n : Int))) l
    rw [countedAll, List.length_append, Nat.succ_mul]
    omega

/-- Behind each statement with a number above 0 stands, just ahead, the author's one with the number before. -/
def Steps (l : List St) : Prop := ∀ (i : Nat) (s : St), l[i]? = some s → 0 < s.number → ∃ (j : Nat) (t : St), i = j + 1 ∧ l[j]? = some t ∧ t.author = s.author ∧ s.number = t.number + 1
theorem Steps.app {a b : List St} (h : Steps a) (k : Steps b) : Steps (a ++ b) := by
  intro i s hi h0
  by_cases e : i < a.length
  · rw [List.getElem?_append_left e] at hi
    obtain ⟨j, t, rfl, hj, h1⟩ := h i s hi h0
    exact ⟨j, t, rfl, by rw [List.getElem?_append_left (by omega)]; exact hj, h1⟩
  · rw [List.getElem?_append_right (by omega)] at hi
    obtain ⟨j, t, e2, hj, h1⟩ := k _ s hi h0
    exact ⟨a.length + j, t, by omega, by rw [List.getElem?_append_right (by omega), show a.length + j - a.length = j by omega]; exact hj, h1⟩
theorem Steps.take {l : List St} (h : Steps l) (n : Nat) : Steps (l.take n) := by
  intro i s hi h0
  rw [List.getElem?_take] at hi
  split at hi
  · obtain ⟨j, t, rfl, hj, h1⟩ := h i s hi h0
    exact ⟨j, t, rfl, by rw [List.getElem?_take, if_pos (by omega)]; exact hj, h1⟩
  · cases hi
theorem countTo_good (own : List St) : ∀ (k i : Nat), own.length - i ≤ k → ∀ j, i ≤ j → j < countTo own i → goodAt own j = true := by
  intro k
  induction k with
  | zero =>
    intro i hk j hij hj
    rw [countTo, dif_neg (by omega)] at hj
    omega
  | succ k ih =>
    intro i hk j hij hj
    cases hg : goodAt own i with
    | false => rw [countTo_stop hg] at hj; omega
    | true =>
      by_cases e : i = j
      · rw [← e]; exact hg
      · by_cases hl : i < own.length
        · exact ih (i + 1) (by omega) j (by omega) (by rw [← countTo_go hg]; exact hj)
        · rw [countTo, dif_neg hl] at hj; omega
theorem goodAt_out {own : List St} {i : Nat} {s : St} (h : goodAt own i = true) (hs : own[i]? = some s) : s.number = (i : Int) ∧ (i = 0 ∨ ∃ q, own[i - 1]? = some q ∧ followsB q s = true) := by
  unfold goodAt at h
  rw [hs] at h
  simp only [Bool.and_eq_true, Bool.or_eq_true, decide_eq_true_eq] at h
  refine ⟨h.1.1, ?_⟩
  rcases h.2 with h | h
  · exact .inl h
  · cases e : own[i - 1]? with
    | none => rw [e] at h; cases h
    | some q =>
      rw [e] at h
      simp only [Option.any_some, Bool.and_eq_true] at h
      exact .inr ⟨q, rfl, h.1⟩
theorem countedI_get {a : Int} {l : List St} {i : Nat} {s : St} (h : (countedI a l)[i]? = some s) : (ownI a l)[i]? = some s ∧ goodAt (ownI a l) i = true := by
  unfold countedI at h
  rw [List.getElem?_take] at h
  split at h
  · next hi => exact ⟨h, countTo_good _ _ 0 (Nat.le_refl _) i (Nat.zero_le _) hi⟩
  · cases h
theorem countedI_back {a : Int} {l : List St} {i : Nat} {s : St} (h : (countedI a l)[i + 1]? = some s) : ∃ q, (countedI a l)[i]? = some q ∧ followsB q s = true ∧ q.number = (i : Int) ∧ s.number = ((i + 1 : Nat) : Int) := by
  obtain ⟨h1, h2⟩ := countedI_get h
  have h3 := goodAt_out h2 h1
  rcases h3.2 with h4 | ⟨q, h4, h5⟩
  · omega
  · have hlt := (List.getElem?_eq_some_iff.1 h).1
    obtain ⟨q2, hq2⟩ : ∃ q2, (countedI a l)[i]? = some q2 := ⟨_, List.getElem?_eq_getElem (by omega)⟩
    obtain ⟨h6, h7⟩ := countedI_get hq2
    have e : q2 = q := by
      rw [show i + 1 - 1 = i by omega] at h4
      exact Option.some.inj (h6.symm.trans h4)
    subst e
    exact ⟨q2, hq2, h5, (goodAt_out h7 h6).1, h3.1⟩
theorem countedI_steps (a : Int) (l : List St) : Steps (countedI a l) := by
  intro i s hi h0
  cases i with
  | zero =>
    obtain ⟨h1, h2⟩ := countedI_get hi
    have h3 := (goodAt_out h2 h1).1
    omega
  | succ j =>
    obtain ⟨q, hq, hf, h1, h2⟩ := countedI_back hi
    exact ⟨j, q, rfl, hq, ((followsB_iff.1 hf).1).symm, by omega⟩
theorem rises_head {s : St} : ∀ {r : List St}, (∀ (j : Nat) (x y : St), (s :: r)[j]? = some x → (s :: r)[j + 1]? = some y → x.time ≤ y.time) → ∀ t ∈ r, s.time ≤ t.time := by
  intro r
  induction r generalizing s with
  | nil => intro _ t ht; cases ht
  | cons u r ih =>
    intro h t ht
    have h1 : s.time ≤ u.time := h 0 s u rfl rfl
    rcases List.mem_cons.1 ht with rfl | ht
    · exact h1
    · exact Int.le_trans h1 (ih (fun j x y hx hy => h (j + 1) x y (by simpa using hx) (by simpa using hy)) t ht)
theorem filter_first (x : Int) : ∀ {c : List St}, (∀ (j : Nat) (s t : St), c[j]? = some s → c[j + 1]? = some t → s.time ≤ t.time) → ∃ m, c.filter (fun s => decide (s.time ≤ x)) = c.take m := by
  intro c
  induction c with
  | nil => intro _; exact ⟨0, rfl⟩
  | cons s r ih =>
    intro h
    by_cases hs : s.time ≤ x
    · obtain ⟨m, hm⟩ := ih (fun j a b ha hb => h (j + 1) a b (by simpa using ha) (by simpa using hb))
      exact ⟨m + 1, by rw [List.filter_cons, if_pos (by simpa using hs), hm]; rfl⟩
    · refine ⟨0, ?_⟩
      rw [List.take_zero, List.filter_eq_nil_iff]
      intro t ht
      rcases List.mem_cons.1 ht with rfl | ht
      · simpa using hs
      · have := rises_head h t ht
        simp; omega
theorem countedAll_steps (l : List St) (x : Int) : ∀ n : Nat, Steps ((countedAll l n).filter (fun s => decide (s.time ≤ x)))
  | 0 => fun i s hi => by simp [countedAll] at hi
  | n + 1 => by
    rw [countedAll, List.filter_append]
    refine (countedAll_steps l x n).app ?_
    obtain ⟨m, hm⟩ := filter_first (c := countedI (n : Int) (l.filter (fun s => decide (s.author = (n : Int))))) x (fun j s t hs ht => by
      obtain ⟨q, hq, hf, _, _⟩ := countedI_back ht
      have e : s = q := Option.some.inj (hs.symm.trans hq)
      rw [e]; exact (followsB_iff.1 hf).2.2.2.2)
    rw [hm]
    exact (countedI_steps _ _).take m
theorem until_more (x : Int) (l : List St) : (l.filter (fun s => decide (s.time ≤ x))).length ≤ (l.filter (fun s => decide (s.time ≤ x + 1))).length := by
  induction l with
  | nil => exact Nat.le_refl _
  | cons s r ih =>
    by_cases h : s.time ≤ x
    · have h2 : s.time ≤ x + 1 := by omega
      simp only [List.filter_cons, decide_eq_true h, decide_eq_true h2, if_true, List.length_cons]; omega
    · simp only [List.filter_cons, decide_eq_false h, Bool.false_eq_true, if_false]
      split
      · simp only [List.length_cons]; omega
      · exact ih
theorem until_rest (x M : Int) (l : List St) (hM : ∀ s ∈ l, s.time ≤ M) : (l.filter (fun s => decide (s.time ≤ x))).length + (l.filter (fun s => decide (x + 1 ≤ s.time) && decide (s.time ≤ M))).length = l.length := by
  induction l with
  | nil => rfl
  | cons s r ih =>
    have hr := ih (fun t ht => hM t (List.mem_cons_of_mem _ ht))
    have hs := hM s List.mem_cons_self
    by_cases h : s.time ≤ x
    · have h2 : ¬ x + 1 ≤ s.time := by omega
      simp only [List.filter_cons, decide_eq_true h, decide_eq_false h2, Bool.false_and, Bool.false_eq_true, if_true, if_false, List.length_cons]; omega
    · have h2 : x + 1 ≤ s.time := by omega
      simp only [List.filter_cons, decide_eq_false h, decide_eq_true h2, decide_eq_true hs, Bool.true_and, Bool.false_eq_true, if_true, if_false, List.length_cons]; omega
end Go.Proofs.Ytdmchekkcmjafaa

namespace Go.Proofs.Ytdmchekkcmjafaa
open Go.RowKit Go.Sort

def before05B (s t : St) : Bool := if s.author = t.author then (if s.number = t.number then Op.bytesLess s.dig.toList t.dig.toList else decide (s.number < t.number)) else decide (s.author < t.author)
set_option maxHeartbeats 1000000 in
set_option maxRecDepth 100000 in
theorem before05_any (x y : St × Sv × Sv) (w : World) : Calls Try.prog 72 #[.agg (stE x).toArray, .agg (stE y).toArray] w fun e w' => e = .returned (.bool (before05B x.1 y.1)) ∧ Ex w.heap.size none w w' := by
  obtain ⟨s, ⟨lo, ln, lc⟩, ⟨po, pn, pc⟩⟩ := x
  obtain ⟨t, ⟨lo', ln', lc'⟩, ⟨po', pn', pc'⟩⟩ := y
  simp only [stE, Sv.v]
  by_cases h1 : s.author = t.author
  · have d1 : (s.author != t.author) = false := by simp [h1]
    by_cases h2 : s.number = t.number
    · have d2 : (s.number != t.number) = false := by simp [h2]
      have HK : Hid (before05B s t = Op.bytesLess s.dig.toList t.dig.toList) := by show _ = _; simp [before05B, h1, h2]
      clear h1 h2
      go_enter Try.func72, Try.ntmps72
      go_wp2
      go_ret
      exact ⟨by rw [HK.out]; rfl, ex_two _ _⟩
    · have d2 : (s.number != t.number) = true := by simp [h2]
      have HK : Hid (before05B s t = decide (s.number < t.number)) := by show _ = _; simp [before05B, h1, h2]
      clear h1 h2
      go_enter Try.func72, Try.ntmps72
      go_wp2
      go_ret
      exact ⟨by rw [HK.out]; rfl, ex_two _ _⟩
  · have d1 : (s.author != t.author) = true := by simp [h1]
    have HK : Hid (before05B s t = decide (s.author < t.author)) := by show _ = _; simp [before05B, h1]
    clear h1
    go_enter Try.func72, Try.ntmps72
    go_wp2
    go_ret
    exact ⟨by rw [HK.out]; rfl, ex_two _ _⟩
end Go.Proofs.Ytdmchekkcmjafaa

namespace Go.Proofs.Ytdmchekkcmjafaa
open Go.RowKit Go.Sort

def putPos (acc : List St) (s : St) : Nat := (acc.takeWhile fun t => before05B t s).length
def put05 (acc : List St) (s : St) : List St := if (acc[putPos acc s]?).any (sameS · s) then acc else acc.take (putPos acc s) ++ [s] ++ acc.drop (putPos acc s)
theorem putPos_eq {acc : List St} {s : St} {j : Nat} (hj : j ≤ acc.length) (hlt : ∀ i t, i < j → acc[i]? = some t → before05B t s = true) (hno : ∀ t, acc[j]? = some t → before05B t s = false) : putPos acc s = j := by
  unfold putPos
  have e : acc = acc.take j ++ acc.drop j := (List.take_append_drop j acc).symm
  have h1 : ∀ x ∈ acc.take j, before05B x s = true := fun x hx => by
    obtain ⟨i, hi⟩ := List.mem_iff_getElem?.1 hx
    have hij : i < j := by have := (List.getElem?_eq_some_iff.1 hi).1; simp at this; omega
    exact hlt i x hij (by rw [← hi, List.getElem?_take]; simp [hij])
  rw [e, List.takeWhile_append_of_pos h1]
  have h2 : (acc.drop j).takeWhile (fun t => before05B t s) = [] := by
    cases hd : acc.drop j with
    | nil => rfl
    | cons t r =>
      have : acc[j]? = some t := by
        have h3 : (acc.drop j)[0]? = some t := by rw [hd]; rfl
        rw [List.getElem?_drop] at h3; simpa using h3
      rw [List.takeWhile_cons, hno t this]; rfl
  rw [h2, List.append_nil, List.length_take]; omega
theorem ownPut05_same {acc : List St} {s t : St} {j : Nat} (h : putPos acc s = j) (ht : acc[j]? = some t) (hs : sameS t s = true) : put05 acc s = acc := by
  unfold put05; rw [h, ht]; simp [hs]
theorem ownPut05_new {acc : List St} {s : St} {j : Nat} (h : putPos acc s = j) (hs : ∀ t, acc[j]? = some t → sameS t s = false) : put05 acc s = acc.take j ++ [s] ++ acc.drop j := by
  unfold put05; rw [h]
  cases hj : acc[j]? with
  | none => simp
  | some t => simp [hs t hj]
theorem mem_put05 {acc : List St} {s x : St} (h : x ∈ put05 acc s) : x ∈ acc ∨ x = s := by
  unfold put05 at h
  split at h
  · exact .inl h
  · simp only [List.mem_append, List.mem_singleton] at h
    rcases h with (h | h) | h
    · exact .inl (List.mem_of_mem_take h)
    · exact .inr h
    · exact .inl (List.mem_of_mem_drop h)
theorem put05_len (acc : List St) (s : St) : (put05 acc s).length ≤ acc.length + 1 := by
  unfold put05
  split
  · omega
  · simp only [List.length_append, List.length_take, List.length_drop, List.length_singleton]; omega

set_option maxHeartbeats 16000000 in
set_option maxRecDepth 100000 in
theorem put05_any {P : Nat → Prop} (ro : Option Addr) (rc : Nat) (acc : List St) (s : St) (lo po : Option Addr) (ln lc pn pc g0 base : Nat) (w : World) (hown : OwnZ g0 base w ro rc acc) (hg0 : g0 < w.heap.size) (hls : Lies P w (s, ⟨lo, ln, lc⟩, ⟨po, pn, pc⟩)) (hbase : base ≤ w.heap.size) (hm : acc.length ≤ 100000) (hla : LightL 1000000 acc) (hm1 : s.list.length ≤ 1000000 ∧ s.pins.length ≤ 1000000) :
    Calls Try.prog 64 #[.slice ro acc.length rc, .agg #[.int .i64 s.author, .int .i64 s.number, .string s.prev, .int .i64 s.time, .int .i64 s.kind, .int .i64 s.a, .int .i64 s.b, .int .i64 s.c, .slice lo ln lc, .slice po pn pc, .string s.body, .int .i64 s.key, .string s.dig]] w fun e w' => ∃ ro' rc' b, e = .returned (.tuple #[.slice ro' (put05 acc s).length rc', .bool b]) ∧ OwnZ g0 base w' ro' rc' (put05 acc s) ∧ Ex w.heap.size none w w' := by
  obtain ⟨n, hn⟩ : ∃ n, n = acc.length := ⟨_, rfl⟩
  have HAL : Hid (acc.length = n) := Lib.hid hn.symm
  rw [HAL.out] at hm ⊢
  have HLA := Lib.hid hla
  have HZ := Lib.hid hown
  have HO := Lib.hid hown.s
  have HLS := Lib.hid hls
  clear hla hown hls hn
  go_enter Try.func64, Try.ntmps64
  go_upto_region 2 with (fail)
  obtain ⟨ws, hws⟩ : ∃ ws : World, ws = w.alloc (.cells #[.int .i64 s.author, .int .i64 s.number, .string s.prev, .int .i64 s.time, .int .i64 s.kind, .int .i64 s.a, .int .i64 s.b, .int .i64 s.c, .slice lo ln lc, .slice po pn pc, .string s.body, .int .i64 s.key, .string s.dig] 30) := ⟨_, rfl⟩
  have HEs : Hid (Ex w.heap.size none w ws) := by rw [hws]; exact Ex.new w _
  have HBs : Hid (ws.heap[w.heap.size]? = some (.cells #[.int .i64 s.author, .int .i64 s.number, .string s.prev, .int .i64 s.time, .int .i64 s.kind, .int .i64 s.a, .int .i64 s.b, .int .i64 s.c, .slice lo ln lc, .slice po pn pc, .string s.body, .int .i64 s.key, .string s.dig] 30 (0, 0))) := by rw [hws]; exact heap_alloc_new w _
  have hzs : w.heap.size < ws.heap.size := by rw [hws]; simp
  have HQS : Hid (∀ w', Ex ws.heap.size none ws w' → w'.cell? ⟨w.heap.size, 0, none⟩ = some (.int .i64 s.author) ∧ w'.cell? ⟨w.heap.size, 1, none⟩ = some (.int .i64 s.number) ∧ w'.cell? ⟨w.heap.size, 2, none⟩ = some (.string s.prev) ∧ w'.cell? ⟨w.heap.size, 3, none⟩ = some (.int .i64 s.time) ∧ w'.cell? ⟨w.heap.size, 4, none⟩ = some (.int .i64 s.kind) ∧ w'.cell? ⟨w.heap.size, 5, none⟩ = some (.int .i64 s.a) ∧ w'.cell? ⟨w.heap.size, 6, none⟩ = some (.int .i64 s.b) ∧ w'.cell? ⟨w.heap.size, 7, none⟩ = some (.int .i64 s.c) ∧ w'.cell? ⟨w.heap.size, 8, none⟩ = some (.slice lo ln lc) ∧ w'.cell? ⟨w.heap.size, 9, none⟩ = some (.slice po pn pc) ∧ w'.cell? ⟨w.heap.size, 10, none⟩ = some (.string s.body) ∧ w'.cell? ⟨w.heap.size, 11, none⟩ = some (.int .i64 s.key) ∧ w'.cell? ⟨w.heap.size, 12, none⟩ = some (.string s.dig)) := Lib.hid (fun w' h => (st_block ((h.block w.heap.size hzs (by simp)).trans HBs.out)).1)
  rw [← hws]
  clear hws
  go_wp2_with fail
  go_loopw [6] (fun u wi => ∃ (j : Nat), j ≤ n ∧ u = .int .i64 j ∧ Hid (∀ i t, i < j → acc[i]? = some t → before05B t s = true) ∧ Ex ws.heap.size none ws wi) (fun u _ => n - (intOf u).toNat)
  case atStart => exact ⟨0, by omega, rfl, Lib.hid (fun i t hi => by omega), Ex.refl _ _ _⟩
  case round =>
    obtain ⟨j, hj, rfl, HJ, hexi⟩ := hrel
    have hszi := hexi.size
    by_cases hjt : j < n
    · obtain ⟨g, og, t, ⟨lo', ln', lc'⟩, ⟨po', pn', pc'⟩, hro, hgb, hlt', hrt, HT⟩ := st_get (HO.out.keep (HEs.out.trans hexi (by omega) (by simp)) (Nat.le_refl _)).at' j (by rw [HAL.out]; omega)
      have hgl := rangeAt_lt hrt (by rw [stE_len]; omega)
      have HLT := Lib.hid hlt'
      have HRT := Lib.hid hrt
      have hj0 : (j : Int) < (n : Int) := by omega
      have hq3 := fun p0 : ExW wr => ExW.st_at hrt p0
      simp only [Sv.v] at hq3
      have hq4 := fun p0 : ExW wr => HQS.out _ (hexi.trans p0.ex hszi (by simp))
      have HEI := Lib.hid hexi
      have HBC : Hid (∀ p0 : ExW wr, Calls Try.prog 72 #[.agg #[.int .i64 t.author, .int .i64 t.number, .string t.prev, .int .i64 t.time, .int .i64 t.kind, .int .i64 t.a, .int .i64 t.b, .int .i64 t.c, .slice lo' ln' lc', .slice po' pn' pc', .string t.body, .int .i64 t.key, .string t.dig], .agg #[.int .i64 s.author, .int .i64 s.number, .string s.prev, .int .i64 s.time, .int .i64 s.kind, .int .i64 s.a, .int .i64 s.b, .int .i64 s.c, .slice lo ln lc, .slice po pn pc, .string s.body, .int .i64 s.key, .string s.dig]] p0.w' fun e w' => e = .returned (.bool (before05B t s)) ∧ Ex p0.w'.heap.size none p0.w' w') := Lib.hid (fun p0 => before05_any (t, ⟨lo', ln', lc'⟩, ⟨po', pn', pc'⟩) (s, ⟨lo, ln, lc⟩, ⟨po, pn, pc⟩) _)
      clear hrt hlt' hexi
      subst hro
      cases hlb : before05B t s with
      | true =>
        rw [hlb] at HBC
        have HLTB := Lib.hid hlb
        clear hlb
        go_wp2_with fail
        refine wp_region_quiet_ex (by kernel_rfl) (by kernel_rfl) ?_
        repeat (go_big_quiet_step ((go_at_call 72; refine calls_ex_of (HBC.out _))))
        refine wpQuiet_nil ?_
        intro _ hw'
        obtain ⟨p9, hw''⟩ := hw'
        subst hw''
        clear hq3 hq4
        go_wp2
        go_roundw
        case rel => exact ⟨j + 1, by omega, by go_num, Lib.hid (fun i t' hi ht' => by
          by_cases e : i = j
          · subst e
            have e2 := ht'.symm.trans HT.out
            cases e2
            exact HLTB.out
          · exact HJ.out i t' (by omega) ht'), HEI.out.trans p9.ex hszi (by simp)⟩
        case measure => simp [intOf] <;> omega
      | false =>
        rw [hlb] at HBC
        have HLTB := Lib.hid hlb
        clear hlb
        go_wp2_with fail
        refine wp_region_quiet_ex (by kernel_rfl) (by kernel_rfl) ?_
        repeat (go_big_quiet_step ((go_at_call 72; refine calls_ex_of (HBC.out _))))
        refine wpQuiet_nil ?_
        intro _ hw'
        obtain ⟨p9, hw''⟩ := hw'
        subst hw''
        have HUP : Hid (putPos acc s = j) := Lib.hid (putPos_eq (by rw [HAL.out]; omega) HJ.out (fun t' ht' => by have e2 := ht'.symm.trans HT.out; cases e2; exact HLTB.out))
        have HE2 : Hid (Ex ws.heap.size none ws p9.w') := Lib.hid (HEI.out.trans p9.ex hszi (by simp))
        have HEP : Hid (Ex wr.heap.size none wr p9.w') := Lib.hid p9.ex
        generalize p9.w' = w9 at HE2 HEP
        clear hq3 hq4
        go_wp2_with fail
        have hq5 := fun p0 : ExW w9 => ExW.st_at (rangeAt_keep HRT.out ((HEP.out.trans p0.ex HEP.out.size (by simp)).block _ hgl (by simp))) (⟨p0.w', Ex.refl _ _ _⟩ : ExW p0.w')
        simp only [Sv.v] at hq5
        have hq6 := fun p0 : ExW w9 => HQS.out _ (HE2.out.trans p0.ex HE2.out.size (by simp))
        have HSC : Hid (∀ p0 : ExW w9, Calls Try.prog 25 #[.agg #[.int .i64 t.author, .int .i64 t.number, .string t.prev, .int .i64 t.time, .int .i64 t.kind, .int .i64 t.a, .int .i64 t.b, .int .i64 t.c, .slice lo' ln' lc', .slice po' pn' pc', .string t.body, .int .i64 t.key, .string t.dig], .agg #[.int .i64 s.author, .int .i64 s.number, .string s.prev, .int .i64 s.time, .int .i64 s.kind, .int .i64 s.a, .int .i64 s.b, .int .i64 s.c, .slice lo ln lc, .slice po pn pc, .string s.body, .int .i64 s.key, .string s.dig]] p0.w' fun e w' => e = .returned (.bool (sameS t s)) ∧ Ex p0.w'.heap.size none p0.w' w') := Lib.hid (fun p0 => same_any (t, ⟨lo', ln', lc'⟩, ⟨po', pn', pc'⟩) (s, ⟨lo, ln, lc⟩, ⟨po, pn, pc⟩) _ (HLT.out.keep fun b _ hb => (HEP.out.trans p0.ex HEP.out.size (by simp)).block b hb (by simp)) (HLS.out.keep fun b _ hb => (HEs.out.trans (HE2.out.trans p0.ex HE2.out.size (by simp)) (by omega) (by simp)).block b hb (by simp)) (by have := (HLA.out.get HT.out).1; show t.list.length ≤ _; omega) (by have := (HLA.out.get HT.out).2; show t.pins.length ≤ _; omega))
        cases hsm : sameS t s with
        | true =>
          rw [hsm] at HSC
          have HSMT := Lib.hid hsm
          clear hsm
          refine wp_region_quiet_ex (by kernel_rfl) (by kernel_rfl) ?_
          repeat (go_big_quiet_step ((go_at_call 25; refine calls_ex_of (HSC.out _))))
          refine wpQuiet_nil ?_
          intro _ hw'
          obtain ⟨p9, hw''⟩ := hw'
          subst hw''
          have HE10 : Hid (Ex ws.heap.size none ws p9.w') := Lib.hid (HE2.out.trans p9.ex HE2.out.size (by simp))
          clear hq5 hq6 HSC
          go_wp2
          go_ret2
          have HPN := ownPut05_same HUP.out HT.out HSMT.out
          exact ⟨_, rc, false, by rw [HPN, HAL.out]; rfl, by rw [HPN]; exact HZ.out.keep (fun b _ _ hlt => (HEs.out.trans HE10.out (by omega) (by simp)).block b hlt (by simp)), HEs.out.trans HE10.out (by omega) (by simp)⟩
        | false =>
          rw [hsm] at HSC
          have HSM : Hid (∀ t', acc[j]? = some t' → sameS t' s = false) := Lib.hid (fun t' ht' => by have e2 := ht'.symm.trans HT.out; cases e2; exact hsm)
          clear hsm
          refine wp_region_quiet_ex (by kernel_rfl) (by kernel_rfl) ?_
          repeat (go_big_quiet_step ((go_at_call 25; refine calls_ex_of (HSC.out _))))
          refine wpQuiet_nil ?_
          intro _ hw'
          obtain ⟨p9, hw''⟩ := hw'
          subst hw''
          replace HE2 : Hid (Ex ws.heap.size none ws p9.w') := Lib.hid (HE2.out.trans p9.ex HE2.out.size (by simp))
          clear hq5 hq6 HSC
          generalize p9.w' = w2 at HE2
          have hrox : (some ⟨g, og, none⟩ : Option Addr) = some ⟨g, og, none⟩ ∨ True := .inr trivial
          generalize (some ⟨g, og, none⟩ : Option Addr) = ro at *
          have hz2 : ws.heap.size ≤ w2.heap.size := HE2.out.size
          have HEW : Hid (Ex w.heap.size none w w2) := Lib.hid (HEs.out.trans HE2.out (by omega) (by simp))
          have HOZ : Hid (OwnZ g0 base w2 ro rc acc) := Lib.hid (HZ.out.keep (fun b _ _ hlt => HEW.out.block b hlt (by simp)))
          have HQ2 : Hid (∀ w', Ex w2.heap.size none w2 w' → w'.cell? ⟨w.heap.size, 0, none⟩ = some (.int .i64 s.author) ∧ w'.cell? ⟨w.heap.size, 1, none⟩ = some (.int .i64 s.number) ∧ w'.cell? ⟨w.heap.size, 2, none⟩ = some (.string s.prev) ∧ w'.cell? ⟨w.heap.size, 3, none⟩ = some (.int .i64 s.time) ∧ w'.cell? ⟨w.heap.size, 4, none⟩ = some (.int .i64 s.kind) ∧ w'.cell? ⟨w.heap.size, 5, none⟩ = some (.int .i64 s.a) ∧ w'.cell? ⟨w.heap.size, 6, none⟩ = some (.int .i64 s.b) ∧ w'.cell? ⟨w.heap.size, 7, none⟩ = some (.int .i64 s.c) ∧ w'.cell? ⟨w.heap.size, 8, none⟩ = some (.slice lo ln lc) ∧ w'.cell? ⟨w.heap.size, 9, none⟩ = some (.slice po pn pc) ∧ w'.cell? ⟨w.heap.size, 10, none⟩ = some (.string s.body) ∧ w'.cell? ⟨w.heap.size, 11, none⟩ = some (.int .i64 s.key) ∧ w'.cell? ⟨w.heap.size, 12, none⟩ = some (.string s.dig)) := Lib.hid (fun w' h => HQS.out _ (HE2.out.trans h hz2 (by simp)))
          go_wp2_with fail
          obtain ⟨xs, a2, hxs, hlies, hs1, ha2, hs2, hra, hrl⟩ := HOZ.out.1.parts j (by rw [HAL.out]; omega)
          have HSS : Hid (xs.map (·.1) = acc ∧ (∀ x ∈ xs, Lies (fun b => (base ≤ b ∧ b ≠ g0) ∧ rowOf ro ≠ some b) w2 x) ∧ Src w2 ro (xs.take j) ∧ Src w2 a2 (xs.drop j) ∧ rowOf a2 = rowOf ro ∧ ∀ b, rowOf ro = some b → b < w2.heap.size) := ⟨hxs, hlies, hs1, hs2, hra, hrl⟩
          have HXL : Hid (xs.length = n) := (show xs.length = n by rw [← HAL.out, ← hxs]; simp)
          have HTL : Hid ((xs.take j).length = j) := (show _ = _ by rw [List.length_take, HXL.out]; omega)
          have HDL : Hid ((xs.drop j).length = n - j) := (show _ = _ by rw [List.length_drop, HXL.out])
          have hkc : n ≤ rc := by have := HOZ.out.1.len; rw [HAL.out] at this; exact this
          clear hxs hlies hs1 hs2 hra hrl
          have g1 : (0 : Int) ≤ (j : Int) := by omega
          have g2 : (j : Int) ≤ (n : Int) := by omega
          have g3 : (n : Int) ≤ (rc : Int) := by omega
          have g4 : (j : Int) ≤ (rc : Int) := by omega
          go_region_held3 (fun w' => w'.cell? ⟨w.heap.size, 0, none⟩ = some (.int .i64 s.author) ∧ w'.cell? ⟨w.heap.size, 1, none⟩ = some (.int .i64 s.number) ∧ w'.cell? ⟨w.heap.size, 2, none⟩ = some (.string s.prev) ∧ w'.cell? ⟨w.heap.size, 3, none⟩ = some (.int .i64 s.time) ∧ w'.cell? ⟨w.heap.size, 4, none⟩ = some (.int .i64 s.kind) ∧ w'.cell? ⟨w.heap.size, 5, none⟩ = some (.int .i64 s.a) ∧ w'.cell? ⟨w.heap.size, 6, none⟩ = some (.int .i64 s.b) ∧ w'.cell? ⟨w.heap.size, 7, none⟩ = some (.int .i64 s.c) ∧ w'.cell? ⟨w.heap.size, 8, none⟩ = some (.slice lo ln lc) ∧ w'.cell? ⟨w.heap.size, 9, none⟩ = some (.slice po pn pc) ∧ w'.cell? ⟨w.heap.size, 10, none⟩ = some (.string s.body) ∧ w'.cell? ⟨w.heap.size, 11, none⟩ = some (.int .i64 s.key) ∧ w'.cell? ⟨w.heap.size, 12, none⟩ = some (.string s.dig)) (first | exact HQ2.out _ ((Ex.refl _ _ w2).drew) | exact HQ2.out _ HA.out.2.1 | exact HQ2.out _ (HA.out.2.1.trans HCC.out.2 hza (by simp)) | exact HQ2.out _ ((HA.out.2.1.trans HCC.out.2 hza (by simp)).trans (Ex.new wc _) (by omega) (by simp)) | exact HQ2.out _ HB.out.2 | exact HQ2.out _ HD.out.2)
            (first
              | (refine step_appG rfl (.const (.slice none 0 0)) (.tmp 36) _ (by rfl) Try.underlying22 Try.infoSt w2.heap.size (fun b => base ≤ b ∧ b ≠ g0) none 0 0 [] rfl (by rfl) ro j rc (by rfl) (xs.take j) HTL.out (OwnG.nil _ _ _) (HSS.out.2.2.1.keep fun _ _ _ => rfl) (fun x hx => ((HSS.out.2.1 x (List.mem_of_mem_take hx)).keep fun _ _ _ => rfl).mono fun b h _ => ⟨h.1, by simp [rowOf]⟩) (by omega) (Nat.le_refl _) j (by omega) ?_
                 intro ao1 cap1 wa hoa hea hba hra
                 have HA : Hid (OwnG wa w2.heap.size (fun b => base ≤ b ∧ b ≠ g0) ao1 cap1 ((xs.take j).map (·.1)) ∧ Ex w2.heap.size none w2 wa ∧ (∀ b, rowOf ao1 = some b → b < wa.heap.size)) := ⟨by simpa using hoa, (Ex.refl _ _ w2).drew.trans hea (Nat.le_refl _) (by simp), hoa.row⟩
                 have hza : w2.heap.size ≤ wa.heap.size := hea.size
                 clear hoa hea hba hra)
              | (go_at_call 28
                 refine (copy03_lit s lo po ln lc pn pc _ (HLS.out.keep fun b _ hb => (HA.out.2.1.block b (by omega) (by simp)).trans (HEW.out.block b hb (by simp))) (by omega)).mono ?_
                 rintro e wc ⟨la, na, ca, pa, np, cp, rfl, hlc, hexc⟩
                 have HCC : Hid (Lies (fun b => wa.heap.size ≤ b) wc (s, ⟨la, na, ca⟩, ⟨pa, np, cp⟩) ∧ Ex wa.heap.size none wa wc) := ⟨hlc, hexc⟩
                 have hzc : wa.heap.size ≤ wc.heap.size := hexc.size
                 clear hlc hexc)
              | (refine step_appG rfl (.tmp 37) (.tmp 40) _ (by rfl) Try.underlying22 Try.infoSt w2.heap.size (fun b => base ≤ b ∧ b ≠ g0) ao1 cap1 j ((xs.take j).map (·.1)) (by rw [List.length_map, HTL.out]) (by rfl) (some ⟨wc.heap.size, 0, none⟩) 1 1 (by rfl) [(s, ⟨la, na, ca⟩, ⟨pa, np, cp⟩)] rfl (HA.out.1.keep ((HCC.out.2).trans (Ex.new wc _) hzc (by simp)) (Nat.le_refl _)) (lit_cells rfl) (fun x hx => by rw [List.mem_singleton.1 hx]; exact (HCC.out.1.keep fun b _ hb => (Ex.new wc _).block b hb (by simp)).mono fun b h _ => ⟨⟨by omega, by omega⟩, fun e => by have := HA.out.2.2 b e; omega⟩) (by omega) (by simp; omega) (j + 1) rfl ?_
                 intro ao2 cap2 wb hob heb hbb hrb
                 have HB : Hid (OwnG wb w2.heap.size (fun b => base ≤ b ∧ b ≠ g0) ao2 cap2 ((xs.take j).map (·.1) ++ [s]) ∧ Ex w2.heap.size none w2 wb) := ⟨by simpa using hob, ((HA.out.2.1.trans HCC.out.2 hza (by simp)).trans (Ex.new wc _) (by omega) (by simp)).trans heb (Nat.le_refl _) (by simp)⟩
                 have hzb2 : w2.heap.size ≤ wb.heap.size := HB.out.2.size
                 clear hob heb hbb hrb)
              | (refine step_appG rfl (.tmp 41) (.tmp 44) _ (by rfl) Try.underlying22 Try.infoSt w2.heap.size (fun b => base ≤ b ∧ b ≠ g0) ao2 cap2 (j + 1) ((xs.take j).map (·.1) ++ [s]) (by rw [List.length_append, List.length_map, HTL.out]; rfl) (by rfl) a2 (n - j) (rc - j) (by rfl) (xs.drop j) HDL.out HB.out.1 (HSS.out.2.2.2.1.keep fun b e hb => HB.out.2.block b hb (by simp)) (fun x hx => ((HSS.out.2.1 x (List.mem_of_mem_drop hx)).mono (P' := fun b => (base ≤ b ∧ b ≠ g0) ∧ b < w2.heap.size) fun b h hb => ⟨h.1, hb⟩).keep (fun b h _ => HB.out.2.block b h.2 (by simp)) |>.mono fun b h _ => ⟨h.1, fun e => by have := HB.out.1.row_ge b e; omega⟩) (by omega) (by omega) (n + 1) (by omega) ?_
                 intro ao3 cap3 wd hod hed hbd hrd
                 have HD : Hid (OwnG wd w2.heap.size (fun b => base ≤ b ∧ b ≠ g0) ao3 cap3 (acc.take j ++ [s] ++ acc.drop j) ∧ Ex w2.heap.size none w2 wd) := ⟨by rw [← HSS.out.1, ← List.map_take, ← List.map_drop]; exact hod, HB.out.2.trans hed (Nat.le_refl _) (by simp)⟩
                 clear hod hed hbd hrd)
              | fail)
          go_wp2
          go_ret2
          have HPN := ownPut05_new HUP.out HSM.out
          exact ⟨ao3, cap3, true, by rw [HPN, List.length_append, List.length_append, List.length_take, List.length_drop, HAL.out, show min j n + [s].length + (n - j) = n + 1 from by simp; omega]; rfl, by rw [HPN]; exact ⟨HD.out.1.lowG (by omega), fun e => by have := HD.out.1.row_ge _ e; omega⟩, HEW.out.trans HD.out.2 (by omega) (by simp)⟩
    · have hjn : decide (j < n) = false := decide_eq_false (by omega)
      have hq4 := fun p0 : ExW wr => HQS.out _ (hexi.trans p0.ex hszi (by simp))
      have HEI := Lib.hid hexi
      clear hexi hjt
      go_wp2_with fail
      refine wp_region_quiet_ex (by kernel_rfl) (by kernel_rfl) ?_
      repeat (go_big_quiet_step (fail))
      refine wpQuiet_nil ?_
      intro _ hw'
      obtain ⟨p9, hw''⟩ := hw'
      subst hw''
      have HNOJ : Hid (∀ t', acc[j]? ≠ some t') := Lib.hid (fun t' ht' => by have := (List.getElem?_eq_some_iff.1 ht').1; rw [HAL.out] at this; simp at hjn; omega)
      have HUP : Hid (putPos acc s = j) := Lib.hid (putPos_eq (by rw [HAL.out]; omega) HJ.out (fun t' ht' => absurd ht' (HNOJ.out t')))
      have HE2 : Hid (Ex ws.heap.size none ws p9.w') := Lib.hid (HEI.out.trans p9.ex hszi (by simp))
      have HSM : Hid (∀ t', acc[j]? = some t' → sameS t' s = false) := Lib.hid (fun t' ht' => absurd ht' (HNOJ.out t'))
      generalize p9.w' = w9 at HE2
      clear hq4
      go_wp2_with fail
      refine wp_region_quiet_ex (by kernel_rfl) (by kernel_rfl) ?_
      repeat (go_big_quiet_step (fail))
      refine wpQuiet_nil ?_
      intro _ hw'
      obtain ⟨p9, hw''⟩ := hw'
      subst hw''
      replace HE2 : Hid (Ex ws.heap.size none ws p9.w') := Lib.hid (HE2.out.trans p9.ex HE2.out.size (by simp))
      generalize p9.w' = w2 at HE2
      have hz2 : ws.heap.size ≤ w2.heap.size := HE2.out.size
      have HEW : Hid (Ex w.heap.size none w w2) := Lib.hid (HEs.out.trans HE2.out (by omega) (by simp))
      have HOZ : Hid (OwnZ g0 base w2 ro rc acc) := Lib.hid (HZ.out.keep (fun b _ _ hlt => HEW.out.block b hlt (by simp)))
      have HQ2 : Hid (∀ w', Ex w2.heap.size none w2 w' → w'.cell? ⟨w.heap.size, 0, none⟩ = some (.int .i64 s.author) ∧ w'.cell? ⟨w.heap.size, 1, none⟩ = some (.int .i64 s.number) ∧ w'.cell? ⟨w.heap.size, 2, none⟩ = some (.string s.prev) ∧ w'.cell? ⟨w.heap.size, 3, none⟩ = some (.int .i64 s.time) ∧ w'.cell? ⟨w.heap.size, 4, none⟩ = some (.int .i64 s.kind) ∧ w'.cell? ⟨w.heap.size, 5, none⟩ = some (.int .i64 s.a) ∧ w'.cell? ⟨w.heap.size, 6, none⟩ = some (.int .i64 s.b) ∧ w'.cell? ⟨w.heap.size, 7, none⟩ = some (.int .i64 s.c) ∧ w'.cell? ⟨w.heap.size, 8, none⟩ = some (.slice lo ln lc) ∧ w'.cell? ⟨w.heap.size, 9, none⟩ = some (.slice po pn pc) ∧ w'.cell? ⟨w.heap.size, 10, none⟩ = some (.string s.body) ∧ w'.cell? ⟨w.heap.size, 11, none⟩ = some (.int .i64 s.key) ∧ w'.cell? ⟨w.heap.size, 12, none⟩ = some (.string s.dig)) := Lib.hid (fun w' h => HQS.out _ (HE2.out.trans h hz2 (by simp)))
      go_wp2_with fail
      obtain ⟨xs, a2, hxs, hlies, hs1, ha2, hs2, hra, hrl⟩ := HOZ.out.1.parts j (by rw [HAL.out]; omega)
      have HSS : Hid (xs.map (·.1) = acc ∧ (∀ x ∈ xs, Lies (fun b => (base ≤ b ∧ b ≠ g0) ∧ rowOf ro ≠ some b) w2 x) ∧ Src w2 ro (xs.take j) ∧ Src w2 a2 (xs.drop j) ∧ rowOf a2 = rowOf ro ∧ ∀ b, rowOf ro = some b → b < w2.heap.size) := ⟨hxs, hlies, hs1, hs2, hra, hrl⟩
      have HXL : Hid (xs.length = n) := (show xs.length = n by rw [← HAL.out, ← hxs]; simp)
      have HTL : Hid ((xs.take j).length = j) := (show _ = _ by rw [List.length_take, HXL.out]; omega)
      have HDL : Hid ((xs.drop j).length = n - j) := (show _ = _ by rw [List.length_drop, HXL.out])
      have hkc : n ≤ rc := by have := HOZ.out.1.len; rw [HAL.out] at this; exact this
      clear hxs hlies hs1 hs2 hra hrl
      have g1 : (0 : Int) ≤ (j : Int) := by omega
      have g2 : (j : Int) ≤ (n : Int) := by omega
      have g3 : (n : Int) ≤ (rc : Int) := by omega
      have g4 : (j : Int) ≤ (rc : Int) := by omega
      go_region_held3 (fun w' => w'.cell? ⟨w.heap.size, 0, none⟩ = some (.int .i64 s.author) ∧ w'.cell? ⟨w.heap.size, 1, none⟩ = some (.int .i64 s.number) ∧ w'.cell? ⟨w.heap.size, 2, none⟩ = some (.string s.prev) ∧ w'.cell? ⟨w.heap.size, 3, none⟩ = some (.int .i64 s.time) ∧ w'.cell? ⟨w.heap.size, 4, none⟩ = some (.int .i64 s.kind) ∧ w'.cell? ⟨w.heap.size, 5, none⟩ = some (.int .i64 s.a) ∧ w'.cell? ⟨w.heap.size, 6, none⟩ = some (.int .i64 s.b) ∧ w'.cell? ⟨w.heap.size, 7, none⟩ = some (.int .i64 s.c) ∧ w'.cell? ⟨w.heap.size, 8, none⟩ = some (.slice lo ln lc) ∧ w'.cell? ⟨w.heap.size, 9, none⟩ = some (.slice po pn pc) ∧ w'.cell? ⟨w.heap.size, 10, none⟩ = some (.string s.body) ∧ w'.cell? ⟨w.heap.size, 11, none⟩ = some (.int .i64 s.key) ∧ w'.cell? ⟨w.heap.size, 12, none⟩ = some (.string s.dig)) (first | exact HQ2.out _ ((Ex.refl _ _ w2).drew) | exact HQ2.out _ HA.out.2.1 | exact HQ2.out _ (HA.out.2.1.trans HCC.out.2 hza (by simp)) | exact HQ2.out _ ((HA.out.2.1.trans HCC.out.2 hza (by simp)).trans (Ex.new wc _) (by omega) (by simp)) | exact HQ2.out _ HB.out.2 | exact HQ2.out _ HD.out.2)
        (first
          | (refine step_appG rfl (.const (.slice none 0 0)) (.tmp 36) _ (by rfl) Try.underlying22 Try.infoSt w2.heap.size (fun b => base ≤ b ∧ b ≠ g0) none 0 0 [] rfl (by rfl) ro j rc (by rfl) (xs.take j) HTL.out (OwnG.nil _ _ _) (HSS.out.2.2.1.keep fun _ _ _ => rfl) (fun x hx => ((HSS.out.2.1 x (List.mem_of_mem_take hx)).keep fun _ _ _ => rfl).mono fun b h _ => ⟨h.1, by simp [rowOf]⟩) (by omega) (Nat.le_refl _) j (by omega) ?_
             intro ao1 cap1 wa hoa hea hba hra
             have HA : Hid (OwnG wa w2.heap.size (fun b => base ≤ b ∧ b ≠ g0) ao1 cap1 ((xs.take j).map (·.1)) ∧ Ex w2.heap.size none w2 wa ∧ (∀ b, rowOf ao1 = some b → b < wa.heap.size)) := ⟨by simpa using hoa, (Ex.refl _ _ w2).drew.trans hea (Nat.le_refl _) (by simp), hoa.row⟩
             have hza : w2.heap.size ≤ wa.heap.size := hea.size
             clear hoa hea hba hra)
          | (go_at_call 28
             refine (copy03_lit s lo po ln lc pn pc _ (HLS.out.keep fun b _ hb => (HA.out.2.1.block b (by omega) (by simp)).trans (HEW.out.block b hb (by simp))) (by omega)).mono ?_
             rintro e wc ⟨la, na, ca, pa, np, cp, rfl, hlc, hexc⟩
             have HCC : Hid (Lies (fun b => wa.heap.size ≤ b) wc (s, ⟨la, na, ca⟩, ⟨pa, np, cp⟩) ∧ Ex wa.heap.size none wa wc) := ⟨hlc, hexc⟩
             have hzc : wa.heap.size ≤ wc.heap.size := hexc.size
             clear hlc hexc)
          | (refine step_appG rfl (.tmp 37) (.tmp 40) _ (by rfl) Try.underlying22 Try.infoSt w2.heap.size (fun b => base ≤ b ∧ b ≠ g0) ao1 cap1 j ((xs.take j).map (·.1)) (by rw [List.length_map, HTL.out]) (by rfl) (some ⟨wc.heap.size, 0, none⟩) 1 1 (by rfl) [(s, ⟨la, na, ca⟩, ⟨pa, np, cp⟩)] rfl (HA.out.1.keep ((HCC.out.2).trans (Ex.new wc _) hzc (by simp)) (Nat.le_refl _)) (lit_cells rfl) (fun x hx => by rw [List.mem_singleton.1 hx]; exact (HCC.out.1.keep fun b _ hb => (Ex.new wc _).block b hb (by simp)).mono fun b h _ => ⟨⟨by omega, by omega⟩, fun e => by have := HA.out.2.2 b e; omega⟩) (by omega) (by simp; omega) (j + 1) rfl ?_
             intro ao2 cap2 wb hob heb hbb hrb
             have HB : Hid (OwnG wb w2.heap.size (fun b => base ≤ b ∧ b ≠ g0) ao2 cap2 ((xs.take j).map (·.1) ++ [s]) ∧ Ex w2.heap.size none w2 wb) := ⟨by simpa using hob, ((HA.out.2.1.trans HCC.out.2 hza (by simp)).trans (Ex.new wc _) (by omega) (by simp)).trans heb (Nat.le_refl _) (by simp)⟩
             have hzb2 : w2.heap.size ≤ wb.heap.size := HB.out.2.size
             clear hob heb hbb hrb)
          | (refine step_appG rfl (.tmp 41) (.tmp 44) _ (by rfl) Try.underlying22 Try.infoSt w2.heap.size (fun b => base ≤ b ∧ b ≠ g0) ao2 cap2 (j + 1) ((xs.take j).map (·.1) ++ [s]) (by rw [List.length_append, List.length_map, HTL.out]; rfl) (by rfl) a2 (n - j) (rc - j) (by rfl) (xs.drop j) HDL.out HB.out.1 (HSS.out.2.2.2.1.keep fun b e hb => HB.out.2.block b hb (by simp)) (fun x hx => ((HSS.out.2.1 x (List.mem_of_mem_drop hx)).mono (P' := fun b => (base ≤ b ∧ b ≠ g0) ∧ b < w2.heap.size) fun b h hb => ⟨h.1, hb⟩).keep (fun b h _ => HB.out.2.block b h.2 (by simp)) |>.mono fun b h _ => ⟨h.1, fun e => by have := HB.out.1.row_ge b e; omega⟩) (by omega) (by omega) (n + 1) (by omega) ?_
             intro ao3 cap3 wd hod hed hbd hrd
             have HD : Hid (OwnG wd w2.heap.size (fun b => base ≤ b ∧ b ≠ g0) ao3 cap3 (acc.take j ++ [s] ++ acc.drop j) ∧ Ex w2.heap.size none w2 wd) := ⟨by rw [← HSS.out.1, ← List.map_take, ← List.map_drop]; exact hod, HB.out.2.trans hed (Nat.le_refl _) (by simp)⟩
             clear hod hed hbd hrd)
          | fail)
      go_wp2
      go_ret2
      have HPN := ownPut05_new HUP.out HSM.out
      exact ⟨ao3, cap3, true, by rw [HPN, List.length_append, List.length_append, List.length_take, List.length_drop, HAL.out, show min j n + [s].length + (n - j) = n + 1 from by simp; omega]; rfl, by rw [HPN]; exact ⟨HD.out.1.lowG (by omega), fun e => by have := HD.out.1.row_ge _ e; omega⟩, HEW.out.trans HD.out.2 (by omega) (by simp)⟩

end Go.Proofs.Ytdmchekkcmjafaa

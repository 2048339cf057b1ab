/- The program's mourning.sorted: a contract, and what its answer is good for. No statement of the seat. -/
import Derived.Test.YtagciffmacolfaaHeirSort
import Derived.Test.YtagciffmacolfaaStabAllHeir
import Derived.Test.YtagciffmacolfaaCompactHeir
import Derived.Test.YtagciffmacolfaaMemK
import Derived.Test.YtagciffmacolfaaHeirSearch
namespace Go.Proofs.Ytagciffmacolfaa
open Go.RowKit Go.Sort

theorem Try.infoHeir : (Try.prog.info? 43).map (fun i => (i.zero, i.size, i.bytes)) = some (some (.agg #[.int .i64 0, .int .i64 0]), 2, 16) := by kernel_rfl
theorem swo_byLost : SWO (ltOf byLost) := by
  refine ⟨fun x => ?_, fun x y z h1 h2 => ?_, fun x y z h1 h2 => ?_⟩
  · simp [ltOf, byLost, cmpI_lt]
  · simp only [ltOf, byLost, cmpI_lt, decide_eq_true_eq] at *; omega
  · simp only [ltOf, byLost, cmpI_lt, decide_eq_false_iff_not] at *; omega
theorem ltLost {x y : Int × Int} : ltOf byLost x y = decide (x.1 < y.1) := by
  rw [Bool.eq_iff_iff]; simp [ltOf, byLost, cmpI_lt]

def sameLost (x y : Int × Int) : Bool := x.1 == y.1

theorem rising_snoc {xs : List (Int × Int)} {y : Int × Int} (h : Rising xs) (hy : ∀ x ∈ xs, x.1 < y.1) : Rising (xs ++ [y]) := fun i j a b hij ha hb => by
  rcases Nat.lt_trichotomy j xs.length with hj | hj | hj
  · rw [List.getElem?_append_left (by omega)] at ha
    rw [List.getElem?_append_left hj] at hb
    exact h i j a b hij ha hb
  · subst hj
    rw [List.getElem?_append_left hij] at ha
    rw [List.getElem?_append_right (Nat.le_refl _)] at hb
    simp at hb
    subst hb
    exact hy a (List.mem_of_getElem? ha)
  · rw [List.getElem?_append_right (by omega)] at hb
    rw [List.getElem?_eq_none (by simp; omega)] at hb
    cases hb
/-- What is left of a row that is sorted by the lost key: rising, and of each key the first one. -/
theorem cpt_first (d : Array (Int × Int)) (hs : SortedIn (ltOf byLost) 0 d.size d) : ∀ n, n ≤ d.size → Rising (cpt sameLost d n) ∧ (∀ k, heirI (cpt sameLost d n) k = heirI (d.toList.take n) k) ∧ ∀ x ∈ cpt sameLost d n, ∀ m, m + 1 = n → x.1 ≤ (d[m]!).1
  | 0, _ => ⟨fun i j a b _ ha _ => by simp [cpt] at ha, fun k => by simp [cpt], fun x hx => by simp [cpt] at hx⟩
  | n + 1, hn => by
    obtain ⟨h1, h2, h3⟩ := cpt_first d hs n (by omega)
    have ht : d.toList.take (n + 1) = d.toList.take n ++ [d[n]!] := by
      rw [List.take_add_one]; congr 1
      rw [getElem!_pos d n (by omega)]; simp [show n < d.size by omega]
    have hle : ∀ x ∈ cpt sameLost d n, x.1 ≤ (d[n]!).1 := fun x hx => by
      rcases Nat.eq_zero_or_pos n with h0 | h0
      · subst h0; simp [cpt] at hx
      · have a := h3 x hx (n - 1) (by omega)
        have b := hs (n - 1) n (Nat.zero_le _) (by omega) (by omega)
        rw [ltLost] at b
        simp at b
        omega
    cases e : stays sameLost d n with
    | true =>
      rw [cpt_yes e]
      have hlt : ∀ x ∈ cpt sameLost d n, x.1 < (d[n]!).1 := fun x hx => by
        rcases Nat.eq_zero_or_pos n with h0 | h0
        · subst h0; simp [cpt] at hx
        · have a := h3 x hx (n - 1) (by omega)
          have b := hs (n - 1) n (Nat.zero_le _) (by omega) (by omega)
          rw [ltLost] at b
          simp at b
          have c : (d[n]!).1 ≠ (d[n - 1]!).1 := by
            unfold stays sameLost at e
            rw [decide_eq_false (by omega)] at e
            simpa using e
          omega
      refine ⟨rising_snoc h1 hlt, fun k => ?_, fun x hx m hm => ?_⟩
      · rw [ht]
        have a := h2 k
        unfold heirI at *
        rw [List.find?_append, List.find?_append]
        cases e1 : (cpt sameLost d n).find? (fun x => x.1 == k) <;> cases e2 : (d.toList.take n).find? (fun x => x.1 == k) <;> simp [e1, e2] at a ⊢
        exact a
      · obtain rfl : m = n := by omega
        simp only [List.mem_append, List.mem_singleton] at hx
        rcases hx with hx | hx
        · exact hle x hx
        · subst hx; exact Int.le_refl _
    | false =>
      rw [cpt_no e]
      refine ⟨h1, fun k => ?_, fun x hx m hm => by obtain rfl : m = n := (by omega); exact hle x hx⟩
      rw [h2 k, ht]
      have h0 : 0 < n := by
        rcases Nat.eq_zero_or_pos n with h0 | h0
        · subst h0; simp [stays] at e
        · exact h0
      have c : (d[n]!).1 = (d[n - 1]!).1 := by
        unfold stays sameLost at e
        rw [decide_eq_false (by omega)] at e
        simpa using e
      unfold heirI
      rw [List.find?_append]
      cases e2 : (d.toList.take n).find? (fun x => x.1 == k) with
      | some y => simp
      | none =>
        rw [List.find?_eq_none] at e2
        have hm : d[n - 1]! ∈ d.toList.take n := by
          rw [getElem!_pos d (n - 1) (by omega)]
          refine List.mem_iff_getElem.2 ⟨n - 1, by simp; omega, by simp⟩
        have := e2 _ hm
        have hne : ((d[n]!).1 == k) = false := by rw [c]; simpa using this
        simp [List.find?_cons, hne]
/-- A stable sort keeps of each key the first one. -/
theorem stab_heir {d d' : Array (Int × Int)} (h : Stab (ltOf byLost) d d') (k : Int) : heirI d'.toList k = heirI d.toList k := by
  have := h.2.2.2 (fun x => x.1 == k) (fun x y hx hy => by rw [ltLost]; simp at hx hy ⊢; omega)
  unfold heirI
  rw [← List.head?_filter, ← List.head?_filter, this]

theorem insOK_heir (g off cap s : Nat) (hs : s < 4611686018427387904) : InsOKHeir Try.prog 2 encH byLost (.func (.func 63) #[] #[]) g off cap s := fun a b A B d w hA hB hH hg hab hb hd => by
  have h := ins_sm swo_byLost d a b hab hb
  refine (insHeir_any g off cap a b s A B hA hB d w hH hg hab hb (by omega) hd).mono ?_
  rintro e w' ⟨rfl, m, os, rfl⟩
  exact ⟨rfl, _, holdsK_sortWorldK_c encH 2 w g off d _ m os hH hg h.1.size, h.1, h.2, ex_sortWorldK encH 2 w g off m _ os⟩
theorem cmpAt_lost : CmpAt Try.prog 63 #[] encH byLost := fun w x y => byLost_any x y w
theorem eqAt_lost : EqAtHeir Try.prog 65 #[] encH sameLost := fun w x y => sameLost_any x y w

theorem sl_holdsK {P : Nat → Prop} {w : World} {g : Nat} {xs : List (Int × Int)} (hP : P g) (h : HoldsK encH 2 w g 0 xs.toArray) : SlAt heirRep P w (some ⟨g, 0, none⟩) xs := fun i hi => by
  refine ⟨g, 0, encH xs[i], rfl, hP, ?_, rfl⟩
  have := holdsK_range (enc := encH) (k := 2) (fun _ => rfl) h i (by simpa using hi)
  rwa [getElem!_pos xs.toArray i hi, List.getElem_toArray] at this
theorem sl_cells {P : Nat → Prop} {w : World} {ao : Option Addr} {xs : List (Int × Int)} (h : SlAt heirRep P w ao xs) : xs.length = 0 ∨ ∃ ad, ao = some ad ∧ ∀ j v, (flatL encH xs)[j]? = some v → w.cell? (ad.add j) = some v := by
  rcases Nat.eq_zero_or_pos xs.length with h0 | h0
  · exact Or.inl h0
  · obtain ⟨b, off, _, e, _, _, _⟩ := h 0 h0
    refine Or.inr ⟨_, e, fun j v hv => ?_⟩
    have hl := flatL_len (enc := encH) (k := 2) (fun _ => rfl) xs
    have hj := (List.getElem?_eq_some_iff.1 hv).1
    have hi : j / 2 < xs.length := by omega
    obtain ⟨b', off', cs, e', _, hr, hR⟩ := h (j / 2) hi
    rw [e] at e'; cases e'
    have hg := flatL_get (enc := encH) (k := 2) (fun _ => rfl) xs (j / 2) (j % 2) hi (by omega)
    rw [show j / 2 * 2 + j % 2 = j by omega, hv] at hg
    have hcs : cs = encH xs[j / 2] := hR
    have := hr (j % 2) v (by rw [hcs]; exact hg.symm)
    rw [Addr.add_lit]
    rw [show off + j = off + j / 2 * 2 + j % 2 by omega]
    exact this

set_option maxHeartbeats 1000000 in
set_option maxRecDepth 100000 in
theorem sorted_any {P : Nat → Prop} {v : Value} {hs : List (Int × Int)} (w : World) (hv : Sl heirRep P w v hs) (hm : hs.length ≤ 1000000) :
    Calls Try.prog 44 #[v] w fun e w' => ∃ (g : Nat) (d : List (Int × Int)) (cap : Nat), e = .returned (.slice (some ⟨g, 0, none⟩) d.length cap) ∧ w.heap.size ≤ g ∧ HoldsK encH 2 w' g 0 d.toArray ∧ Rising d ∧ d.length ≤ hs.length ∧ (∀ k, heirI d k = heirI hs k) ∧ Ex w.heap.size none w w' := by
  obtain ⟨ao, cap, rfl, hx⟩ := hv
  have HX := Lib.hid (sl_cells hx)
  have HL := Lib.hid (flatL_len (enc := encH) (k := 2) (fun _ => rfl) hs)
  clear hx
  obtain ⟨cs, hcs⟩ : ∃ c, c = flatL encH hs := ⟨_, rfl⟩
  have HCS := Lib.hid hcs
  rw [← hcs] at HX HL
  clear hcs
  obtain ⟨i0, hi, hz0, hz1, hz2⟩ := info_parts Try.infoHeir
  have hsz : (Try.prog.info? 43).map (·.size) = some 2 := by rw [hi]; simp [hz1]
  go_enter Try.func44, Try.ntmps44
  go_wp2_with (first
    | (at_make; refine wpList_make_full _ rfl (.tmp 5) (.tmp 5) _ rfl w.heap.size 43 i0 _ 2 Try.underlying38 hi hz0 hz1 .i64 .i64 _ _ hs.length rfl rfl rfl rfl (by rw [hz2]; omega) (by unfold maxLen; omega) (Nat.le_refl _) ?_; intro w1 hown1 hgr1; have hg1 := (own_there hown1).2.2.1; have HO := Lib.hid hown1; have HG := Lib.hid hgr1; clear hown1 hgr1)
    | (refine wpList_copy_k rfl (.tmp 7) (.tmp 8) _ _ rfl 43 Try.underlying38 2 hsz w.heap.size 0 hs.length hs.length ao cap (by rfl) (by rfl) cs HL.out (copy_from HX.out HG.out (by simp)) (fun j hj => own_some HO.out j (by rw [← HL.out]; exact hj)) (fun j _ => own_frozen HO.out j) (by rw [HCS.out]; exact flatL_one one_encH hs) ?_))
  have hH2 : HoldsK encH 2 (w1.setCells w.heap.size 0 cs) w.heap.size 0 hs.toArray := by
    rw [HCS.out]
    exact holdsK_setAll (enc := encH) (k := 2) (fun _ => rfl) (fun j hj => own_some HO.out j hj) (fun j hj => own_frozen HO.out j)
  have hE2 : Ex w.heap.size none w (w1.setCells w.heap.size 0 cs) := ((Ex.refl w.heap.size none w).grown HG.out (Nat.le_refl _) (by simp)).trans (((ex_setCells w1 w.heap.size 0 cs).mono (Nat.le_of_lt hg1)).above (Nat.le_refl _)) (Nat.le_refl _) (by simp)
  have hg2 : w.heap.size < (w1.setCells w.heap.size 0 cs).heap.size := by rw [size_setCells]; exact hg1
  have HH2 := Lib.hid hH2
  clear hH2
  generalize w1.setCells w.heap.size 0 cs = w2 at *
  refine (sortStableHeir_all layHeir encH (fun _ => rfl) one_encH byLost swo_byLost 63 #[] (enters_of Try.func63 (by kernel_rfl) rfl) cmpAt_lost w.heap.size 0 hs.length hs.length (by omega) (insOK_heir _ _ _ _ (by omega)) hs.toArray w2 HH2.out hg2 (by simp) Try.func62).mono ?_
  rintro e w3 ⟨rfl, d3, hH3, hst, hex3⟩
  have HST := Lib.hid (And.intro hH3 hst)
  have hz3 := hex3.size
  clear hH3 hst
  go_wp2_with fail
  refine (compactHeir_any layHeir encH (fun _ => rfl) one_encH sameLost 65 #[] (enters_of Try.func65 (by kernel_rfl) rfl) eqAt_lost Try.func64 #[.int .i64 0, .int .i64 0] Try.zeroValue43 rfl (by simp [Value.oneCell']) Try.underlying79 Try.isAgg79 Try.sizeOf79 w.heap.size 0 hs.length hs.length d3 w3 HST.out.1 (by omega) (by have := HST.out.2.1; simp at this; omega) (by have := HST.out.2.1; simp at this; omega) (by have := HST.out.2.1; simpa using this)).mono ?_
  rintro e w4 ⟨rfl, hH4, hex4⟩
  go_wp2
  go_ret
  have hds : d3.size = hs.length := by have := HST.out.2.1; simpa using this
  have hsrt := HST.out.2.2.1
  obtain ⟨c1, c2, _⟩ := cpt_first d3 (by rw [hds]; simpa using hsrt) hs.length (by omega)
  refine ⟨w.heap.size, cpt sameLost d3 hs.length, hs.length, rfl, Nat.le_refl _, hH4, c1, cpt_le _ _ _, fun k => ?_, ?_⟩
  · rw [c2, List.take_of_length_le (by simp; omega), stab_heir HST.out.2]
  · have e3 := hE2.trans (hex3.mono (Nat.le_of_lt hg2) |>.above (Nat.le_refl _)) (Nat.le_refl _) (by simp)
    exact e3.trans ((hex4.mono (show w.heap.size ≤ w3.heap.size by omega)).above (Nat.le_refl _)) (Nat.le_refl _) (by simp)
end Go.Proofs.Ytagciffmacolfaa

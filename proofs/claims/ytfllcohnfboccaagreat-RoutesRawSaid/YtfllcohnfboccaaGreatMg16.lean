/- ref11.Put: a number put into an ascending list. No statement of the seat. | The reference's neighbours of a key. No statement of the seat. -/
import Derived.Test.YtfllcohnfboccaaGreatMg15
import Derived.Test.YtfllcohnfboccaaGreatWith11G
namespace Go.Proofs.YtfllcohnfboccaaGreat
open Go.RowKit Go.Sort

theorem src_ints {w : World} {ao : Option Addr} {xs : List Int} (h : IntsAt w ao xs) : xs.length = 0 ∨ ∃ ad, ao = some ad ∧ ∀ (j : Nat) (v : Value), (flatL iE xs)[j]? = some v → w.cell? (ad.add j) = some v := by
  by_cases h0 : xs.length = 0
  · exact .inl h0
  · obtain ⟨b, off, e, hc⟩ := h 0 (by omega)
    refine .inr ⟨_, e, fun j v hv => ?_⟩
    rw [flat_iE] at hv
    obtain ⟨hj, hv⟩ := List.getElem?_eq_some_iff.1 hv
    have hj' : j < xs.length := by simpa using hj
    rw [Addr.add_lit, hc j hj', ← hv]
    simp [List.getD, hj']
theorem drop_srcI {w : World} {ao : Option Addr} {xs : List Int} (h : IntsAt w ao xs) (k c : Nat) (hk : k ≤ xs.length) (hc : xs.length ≤ c) :
    (xs.drop k).length = 0 ∨ ∃ ad, (if c = k then ao else ao.map (fun x => x.add k)) = some ad ∧ ∀ (j : Nat) (v : Value), (flatL iE (xs.drop k))[j]? = some v → w.cell? (ad.add j) = some v := by
  by_cases e : k = xs.length
  · exact .inl (by rw [List.length_drop]; omega)
  · obtain ⟨b, off, e2, hcell⟩ := h 0 (by omega)
    subst e2
    rw [if_neg (by omega)]
    refine .inr ⟨(⟨b, off, none⟩ : Addr).add k, rfl, fun j v hv => ?_⟩
    rw [flat_iE] at hv
    obtain ⟨hj, hv⟩ := List.getElem?_eq_some_iff.1 hv
    have hj' : k + j < xs.length := by simp at hj; omega
    rw [Addr.add_lit, Addr.add_lit, Nat.add_assoc, hcell (k + j) hj', ← hv]
    simp [List.getD, hj']
set_option maxHeartbeats 8000000 in
set_option maxRecDepth 100000 in
theorem put11_any (ao : Option Addr) (n cap : Nat) (l : List Int) (x : Int) (w : World) (hx : IntsAt w ao l) (hn : l.length = n) (hs : l.Pairwise (· < ·)) (hm : n ≤ 100000) (hc : n ≤ cap) :
    Calls Tryz.prog 80 #[.slice ao n cap, .int .i64 x] w fun e w' => ∃ (ro : Option Addr) (rc q : Nat), e = .returned (.slice ro q rc) ∧ ∃ r : List Int, (r.length = q ∧ q ≤ n + 1) ∧ r.Pairwise (· < ·) ∧ (∀ y, y ∈ r ↔ y = x ∨ y ∈ l) ∧ OwnI w' w.heap.size ro rc r ∧ Ex w.heap.size none w w' := by
  have HX := Lib.hid hx
  have HN := Lib.hid hn
  have HS : Hid (l.Pairwise (· < ·)) := Lib.hid hs
  clear hx hn hs
  go_enter Tryz.func80, Tryz.ntmps80
  go_wp2
  go_loop [5] (fun i => ∃ k : Nat, k ≤ n ∧ i = .int .i64 k ∧ Hid (∀ y ∈ l.take k, y < x)) (fun i => n - (intOf i).toNat)
  case atStart => exact ⟨0, Nat.zero_le _, rfl, Lib.hid (fun y hy => by simp at hy)⟩
  case round =>
    obtain ⟨k, hk, rfl, HT⟩ := hrel
    by_cases hlt : k < n
    · have hltI : (k : Int) < (n : Int) := by omega
      have hld : decide (k < n) = true := decide_eq_true hlt
      obtain ⟨b, off, y, hao, hck, HY⟩ := HX.out.get k (by rw [HN.out]; exact hlt)
      subst hao
      by_cases hyx : y < x
      · have hd : decide (y < x) = true := decide_eq_true hyx
        have HT2 : Hid (∀ z ∈ l.take (k + 1), z < x) := Lib.hid (fun z hz => by
          rw [take_getD l (by rw [HN.out]; exact hlt) HY.out] at hz
          rcases List.mem_append.1 hz with hz | hz
          · exact HT.out z hz
          · rw [List.mem_singleton.1 hz]; exact hyx)
        go_wp2
        go_round
        case rel => exact ⟨k + 1, by omega, by go_num, HT2⟩
        case measure => simp [intOf] <;> omega
      · have hd : decide (y < x) = false := decide_eq_false hyx
        by_cases he : y = x
        · have hb : (y == x) = true := by simpa using he
          have HM : Hid (∀ z, z ∈ l ↔ z = x ∨ z ∈ l) := Lib.hid (fun z => ⟨.inr, fun h => h.elim (fun h => by
            rw [h, ← he, ← HY.out]
            exact getD_mem (by rw [HN.out]; exact hlt)) id⟩)
          clear he
          go_wp2_with (at_builtin; refine wpList_appIs rfl (.const (.slice none 0 0)) (.tmp 32) _ (by rfl) Tryz.underlying22 infoI3 w.heap.size none 0 [] l (.slice none 0 0) _ 0 rfl rfl (by rfl) (by rfl) ⟨some ⟨b, off, none⟩, cap, by rw [HN.out]; rfl, HX.out⟩ (OwnI.nil _ _) (Ex.refl _ _ _) (by rw [HN.out]; simp; omega) (Nat.le_refl _) ?_; intro ro rc wa hown hex; have HO : Hid (OwnI wa w.heap.size ro rc l) := Lib.hid (by simpa using hown); have HE := Lib.hid hex; rw [List.length_nil, Nat.zero_add, HN.out]; clear hown hex)
          go_ret
          exact ⟨ro, rc, n, rfl, l, ⟨HN.out, by omega⟩, HS.out, HM.out, HO.out, HE.out⟩
        · have hb : (y == x) = false := by simpa using he
          have HGT : Hid (∀ z ∈ l.drop k, x < z) := Lib.hid (put_drop HS.out fun h => by rw [HY.out]; omega)
          clear he hyx
          go_upto_region 6 with (fail)
          obtain ⟨a0, ha0⟩ : ∃ a0 : Option Addr, a0 = some ⟨b, off, none⟩ := ⟨_, rfl⟩
          rw [← ha0]
          have HX0 : Hid (IntsAt w a0 l) := Lib.hid (by rw [ha0]; exact HX.out)
          clear ha0 HX hck HY
          have HTL : Hid ((l.take k).length = k) := Lib.hid (by rw [List.length_take, HN.out]; omega)
          have HDL : Hid ((l.drop k).length = n - k) := Lib.hid (by rw [List.length_drop, HN.out])
          have HST : Hid (∀ w', Ex w.heap.size none w w' → (l.take k).length = 0 ∨ ∃ ad, a0 = some ad ∧ ∀ (j : Nat) (v : Value), (flatL iE (l.take k))[j]? = some v → w'.cell? (ad.add j) = some v) := Lib.hid (fun w' h => src_ints ((HX0.out.keep h (Nat.le_refl _) (by simp)).take k))
          obtain ⟨a2, ha2⟩ : ∃ a2, (if cap = k then a0 else a0.map (fun x => x.add k)) = a2 := ⟨_, rfl⟩
          have HSD : Hid (∀ w', Ex w.heap.size none w w' → (l.drop k).length = 0 ∨ ∃ ad, a2 = some ad ∧ ∀ (j : Nat) (v : Value), (flatL iE (l.drop k))[j]? = some v → w'.cell? (ad.add j) = some v) := Lib.hid (fun w' h => by
            have h := drop_srcI (HX0.out.keep h (Nat.le_refl _) (by simp)) k cap (by rw [HN.out]; omega) (by rw [HN.out]; omega)
            rw [ha2] at h
            exact h)
          have g1 : (0 : Int) ≤ (k : Int) := by omega
          have g2 : (k : Int) ≤ (n : Int) := by omega
          have g3 : (n : Int) ≤ (cap : Int) := by omega
          have g4 : (k : Int) ≤ (cap : Int) := by omega
          go_region_held3 (fun _ => True) (exact trivial)
            (first
              | (refine step_appE (α := Int) (P := Tryz.prog) rfl (.const (.slice none 0 0)) (.tmp 36) 22 3 (by rfl) Tryz.underlying22 (.int .i64 0) 1 8 infoI3 rfl (by decide) (by decide) iE iE_len one_iE w.heap.size none 0 0 [] rfl (by rfl) a0 k cap (by rfl) (l.take k) HTL.out (OwnE.nil _ _ _ _ _) (HST.out _ (Ex.refl _ _ w).drew) (by omega) (Nat.le_refl _) k (by omega) ?_
                 intro ao6 ec6 wa hown hex hb hr
                 have HEA : Hid (Ex w.heap.size none w wa) := Lib.hid ((Ex.refl _ _ w).drew.trans hex (Nat.le_refl _) (by simp))
                 have HOA := Lib.hid hown
                 have hza : w.heap.size ≤ wa.heap.size := HEA.out.size
                 clear hown hex hb hr)
              | (refine step_appE (α := Int) (P := Tryz.prog) rfl (.const (.slice none 0 0)) (.tmp 36) 22 3 (by rfl) Tryz.underlying22 (.int .i64 0) 1 8 infoI3 rfl (by decide) (by decide) iE iE_len one_iE w.heap.size none 0 0 [] rfl (by rfl) a0 k cap (by rfl) (l.take k) HTL.out (OwnE.nil _ _ _ _ _) (HST.out _ (Ex.new w _).drew) (by omega) (by simp) k (by omega) ?_
                 intro ao6 ec6 wa hown hex hb hr
                 have HLB : Hid (∀ (j : Nat) (v : Value), (flatL iE [x])[j]? = some v → wa.cell? ((⟨w.heap.size, 0, none⟩ : Addr).add j) = some v) := Lib.hid (fun j v hv => by
                   have hh : wa.heap[w.heap.size]? = some (.cells #[.int .i64 x] 3 (0, 0)) := (hb _ (by simp) (by simp [rowOf])).trans (heap_alloc_new w _)
                   rw [Addr.add_lit, Nat.zero_add, cell_of_row _ _ _ _ _ _ hh]
                   have e : flatL iE [x] = [.int .i64 x] := rfl
                   rw [e] at hv
                   simpa using hv)
                 have HEA : Hid (Ex w.heap.size none w wa) := Lib.hid ((Ex.new w _).drew.trans hex (Nat.le_refl _) (by simp))
                 have HOA := Lib.hid hown
                 have hza : w.heap.size ≤ wa.heap.size := HEA.out.size
                 clear hown hex hb hr)
              | (refine step_appE (α := Int) (P := Tryz.prog) rfl (.tmp 37) (.tmp 39) 22 3 (by rfl) Tryz.underlying22 (.int .i64 0) 1 8 infoI3 rfl (by decide) (by decide) iE iE_len one_iE w.heap.size ao6 ec6 k ([] ++ l.take k) (by rw [List.nil_append]; exact HTL.out) (by rfl) (some ⟨w.heap.size, 0, none⟩) 1 1 (by rfl) [x] rfl HOA.out (.inr ⟨_, rfl, HLB.out⟩) (by omega) hza (k + 1) (by omega) ?_
                 intro ao7 ec7 wb hown hex hb hr
                 have HEB : Hid (Ex w.heap.size none w wb) := Lib.hid (HEA.out.trans hex (Nat.le_refl _) (by simp))
                 have HOB := Lib.hid hown
                 have hzb : w.heap.size ≤ wb.heap.size := HEB.out.size
                 clear hown hex hb hr)
              | (refine step_appE (α := Int) (P := Tryz.prog) rfl (.tmp 37) (.tmp 39) 22 3 (by rfl) Tryz.underlying22 (.int .i64 0) 1 8 infoI3 rfl (by decide) (by decide) iE iE_len one_iE w.heap.size ao6 ec6 k ([] ++ l.take k) (by rw [List.nil_append]; exact HTL.out) (by rfl) (some ⟨wa.heap.size, 0, none⟩) 1 1 (by rfl) [x] rfl (HOA.out.keep (Ex.new wa _) (Nat.le_refl _) (by simp)) (lit_cells (by rfl)) (by omega) (by simp; omega) (k + 1) (by omega) ?_
                 intro ao7 ec7 wb hown hex hb hr
                 have HEB : Hid (Ex w.heap.size none w wb) := Lib.hid ((HEA.out.trans (Ex.new wa _) hza (by simp)).trans hex (Nat.le_refl _) (by simp))
                 have HOB := Lib.hid hown
                 have hzb : w.heap.size ≤ wb.heap.size := HEB.out.size
                 clear hown hex hb hr)
              | (refine step_appE (α := Int) (P := Tryz.prog) rfl (.tmp 40) (.tmp 43) 22 3 (by rfl) Tryz.underlying22 (.int .i64 0) 1 8 infoI3 rfl (by decide) (by decide) iE iE_len one_iE w.heap.size ao7 ec7 (k + 1) ([] ++ l.take k ++ [x]) (by rw [List.nil_append, List.length_append, HTL.out]; rfl) (by rfl) a2 (n - k) (cap - k) (by rfl) (l.drop k) HDL.out HOB.out (HSD.out _ HEB.out) (by omega) hzb (n + 1) (by omega) ?_
                 intro ao8 ec8 wc hown hex hb hr
                 have HEC : Hid (Ex w.heap.size none w wc) := Lib.hid (HEB.out.trans hex (Nat.le_refl _) (by simp))
                 have HOC := Lib.hid hown
                 clear hown hex hb hr)
              | fail)
          all_goals (
            go_wp2
            go_ret
            refine ⟨ao8, ec8, n + 1, rfl, l.take k ++ [x] ++ l.drop k, ⟨by rw [List.length_append, List.length_append, HTL.out, HDL.out]; simp; omega, Nat.le_refl _⟩, put_strict HS.out HT.out HGT.out, fun y => mem_put, ?_, HEC.out⟩
            have h := HOC.out
            rw [List.nil_append] at h
            exact h.i)
    · have hltI : ¬ (k : Int) < (n : Int) := by omega
      have hld : decide (k < n) = false := decide_eq_false hlt
      have HGT : Hid (∀ z ∈ l.drop k, x < z) := Lib.hid (fun z hz => by rw [List.drop_of_length_le (by rw [HN.out]; omega)] at hz; cases hz)
      have HX0 : Hid (IntsAt w ao l) := HX
      obtain ⟨a0, ha0⟩ : ∃ a0 : Option Addr, a0 = ao := ⟨_, rfl⟩
      subst ha0
      go_upto_region 6 with (fail)
      have HTL : Hid ((l.take k).length = k) := Lib.hid (by rw [List.length_take, HN.out]; omega)
      have HDL : Hid ((l.drop k).length = n - k) := Lib.hid (by rw [List.length_drop, HN.out])
      have HST : Hid (∀ w', Ex w.heap.size none w w' → (l.take k).length = 0 ∨ ∃ ad, a0 = some ad ∧ ∀ (j : Nat) (v : Value), (flatL iE (l.take k))[j]? = some v → w'.cell? (ad.add j) = some v) := Lib.hid (fun w' h => src_ints ((HX0.out.keep h (Nat.le_refl _) (by simp)).take k))
      obtain ⟨a2, ha2⟩ : ∃ a2, (if cap = k then a0 else a0.map (fun x => x.add k)) = a2 := ⟨_, rfl⟩
      have HSD : Hid (∀ w', Ex w.heap.size none w w' → (l.drop k).length = 0 ∨ ∃ ad, a2 = some ad ∧ ∀ (j : Nat) (v : Value), (flatL iE (l.drop k))[j]? = some v → w'.cell? (ad.add j) = some v) := Lib.hid (fun w' h => by
        have h := drop_srcI (HX0.out.keep h (Nat.le_refl _) (by simp)) k cap (by rw [HN.out]; omega) (by rw [HN.out]; omega)
        rw [ha2] at h
        exact h)
      have g1 : (0 : Int) ≤ (k : Int) := by omega
      have g2 : (k : Int) ≤ (n : Int) := by omega
      have g3 : (n : Int) ≤ (cap : Int) := by omega
      have g4 : (k : Int) ≤ (cap : Int) := by omega
      go_region_held3 (fun _ => True) (exact trivial)
        (first
          | (refine step_appE (α := Int) (P := Tryz.prog) rfl (.const (.slice none 0 0)) (.tmp 36) 22 3 (by rfl) Tryz.underlying22 (.int .i64 0) 1 8 infoI3 rfl (by decide) (by decide) iE iE_len one_iE w.heap.size none 0 0 [] rfl (by rfl) a0 k cap (by rfl) (l.take k) HTL.out (OwnE.nil _ _ _ _ _) (HST.out _ (Ex.refl _ _ w).drew) (by omega) (Nat.le_refl _) k (by omega) ?_
             intro ao6 ec6 wa hown hex hb hr
             have HEA : Hid (Ex w.heap.size none w wa) := Lib.hid ((Ex.refl _ _ w).drew.trans hex (Nat.le_refl _) (by simp))
             have HOA := Lib.hid hown
             have hza : w.heap.size ≤ wa.heap.size := HEA.out.size
             clear hown hex hb hr)
          | (refine step_appE (α := Int) (P := Tryz.prog) rfl (.const (.slice none 0 0)) (.tmp 36) 22 3 (by rfl) Tryz.underlying22 (.int .i64 0) 1 8 infoI3 rfl (by decide) (by decide) iE iE_len one_iE w.heap.size none 0 0 [] rfl (by rfl) a0 k cap (by rfl) (l.take k) HTL.out (OwnE.nil _ _ _ _ _) (HST.out _ (Ex.new w _).drew) (by omega) (by simp) k (by omega) ?_
             intro ao6 ec6 wa hown hex hb hr
             have HLB : Hid (∀ (j : Nat) (v : Value), (flatL iE [x])[j]? = some v → wa.cell? ((⟨w.heap.size, 0, none⟩ : Addr).add j) = some v) := Lib.hid (fun j v hv => by
               have hh : wa.heap[w.heap.size]? = some (.cells #[.int .i64 x] 3 (0, 0)) := (hb _ (by simp) (by simp [rowOf])).trans (heap_alloc_new w _)
               rw [Addr.add_lit, Nat.zero_add, cell_of_row _ _ _ _ _ _ hh]
               have e : flatL iE [x] = [.int .i64 x] := rfl
               rw [e] at hv
               simpa using hv)
             have HEA : Hid (Ex w.heap.size none w wa) := Lib.hid ((Ex.new w _).drew.trans hex (Nat.le_refl _) (by simp))
             have HOA := Lib.hid hown
             have hza : w.heap.size ≤ wa.heap.size := HEA.out.size
             clear hown hex hb hr)
          | (refine step_appE (α := Int) (P := Tryz.prog) rfl (.tmp 37) (.tmp 39) 22 3 (by rfl) Tryz.underlying22 (.int .i64 0) 1 8 infoI3 rfl (by decide) (by decide) iE iE_len one_iE w.heap.size ao6 ec6 k ([] ++ l.take k) (by rw [List.nil_append]; exact HTL.out) (by rfl) (some ⟨w.heap.size, 0, none⟩) 1 1 (by rfl) [x] rfl HOA.out (.inr ⟨_, rfl, HLB.out⟩) (by omega) hza (k + 1) (by omega) ?_
             intro ao7 ec7 wb hown hex hb hr
             have HEB : Hid (Ex w.heap.size none w wb) := Lib.hid (HEA.out.trans hex (Nat.le_refl _) (by simp))
             have HOB := Lib.hid hown
             have hzb : w.heap.size ≤ wb.heap.size := HEB.out.size
             clear hown hex hb hr)
          | (refine step_appE (α := Int) (P := Tryz.prog) rfl (.tmp 37) (.tmp 39) 22 3 (by rfl) Tryz.underlying22 (.int .i64 0) 1 8 infoI3 rfl (by decide) (by decide) iE iE_len one_iE w.heap.size ao6 ec6 k ([] ++ l.take k) (by rw [List.nil_append]; exact HTL.out) (by rfl) (some ⟨wa.heap.size, 0, none⟩) 1 1 (by rfl) [x] rfl (HOA.out.keep (Ex.new wa _) (Nat.le_refl _) (by simp)) (lit_cells (by rfl)) (by omega) (by simp; omega) (k + 1) (by omega) ?_
             intro ao7 ec7 wb hown hex hb hr
             have HEB : Hid (Ex w.heap.size none w wb) := Lib.hid ((HEA.out.trans (Ex.new wa _) hza (by simp)).trans hex (Nat.le_refl _) (by simp))
             have HOB := Lib.hid hown
             have hzb : w.heap.size ≤ wb.heap.size := HEB.out.size
             clear hown hex hb hr)
          | (refine step_appE (α := Int) (P := Tryz.prog) rfl (.tmp 40) (.tmp 43) 22 3 (by rfl) Tryz.underlying22 (.int .i64 0) 1 8 infoI3 rfl (by decide) (by decide) iE iE_len one_iE w.heap.size ao7 ec7 (k + 1) ([] ++ l.take k ++ [x]) (by rw [List.nil_append, List.length_append, HTL.out]; rfl) (by rfl) a2 (n - k) (cap - k) (by rfl) (l.drop k) HDL.out HOB.out (HSD.out _ HEB.out) (by omega) hzb (n + 1) (by omega) ?_
             intro ao8 ec8 wc hown hex hb hr
             have HEC : Hid (Ex w.heap.size none w wc) := Lib.hid (HEB.out.trans hex (Nat.le_refl _) (by simp))
             have HOC := Lib.hid hown
             clear hown hex hb hr)
          | fail)
      all_goals (
        go_wp2
        go_ret
        refine ⟨ao8, ec8, n + 1, rfl, l.take k ++ [x] ++ l.drop k, ⟨by rw [List.length_append, List.length_append, HTL.out, HDL.out]; simp; omega, Nat.le_refl _⟩, put_strict HS.out HT.out HGT.out, fun y => mem_put, ?_, HEC.out⟩
        have h := HOC.out
        rw [List.nil_append] at h
        exact h.i)
end Go.Proofs.YtfllcohnfboccaaGreat

namespace Go.Proofs.YtfllcohnfboccaaGreat
open Go.RowKit Go.Sort

theorem ed_up {es : List EdD} {k : Nat} {e : EdD} (h : es[k]? = some e) : es.take (k + 1) = es.take k ++ [e] := by
  rw [List.take_add_one, h]
  rfl
set_option maxHeartbeats 8000000 in
set_option maxRecDepth 100000 in
theorem nb20_any {P : Nat → Prop} (sz : Int) (eo : Option Addr) (en ec : Nat) (go : Option Addr) (gn gc : Nat) (es : List EdD) (key : Int) (w : World) (h : SlAt edRep P w eo es) (hn : es.length = en) (hm : en ≤ 1000) :
    Calls Tryz.prog 38 #[.agg #[.int .i64 sz, .slice eo en ec, .slice go gn gc], .int .i64 key] w fun e w' => ∃ (ro : Option Addr) (rc n : Nat), e = .returned (.slice ro n rc) ∧ (nbI es key).length = n ∧ OwnI w' w.heap.size ro rc (nbI es key) ∧ Ex w.heap.size none w w' := by
  have HX := Lib.hid h
  have HN := Lib.hid hn
  clear h hn
  go_enter Tryz.func38, Tryz.ntmps38
  go_upto_region 3 with (fail)
  obtain ⟨w1, hw1⟩ : ∃ w1 : World, w1 = w.alloc (.cells #[.int .i64 sz, .slice eo en ec, .slice go gn gc] 64) := ⟨_, rfl⟩
  have HE1 : Hid (Ex w.heap.size none w w1) := Lib.hid (by rw [hw1]; exact Ex.new _ _)
  have hz1 : w.heap.size + 1 ≤ w1.heap.size := by rw [hw1]; simp
  have HC : Hid (∀ w', Ex w1.heap.size none w1 w' → w'.cell? ⟨w.heap.size, 0, none⟩ = some (.int .i64 sz) ∧ w'.cell? ⟨w.heap.size, 1, none⟩ = some (.slice eo en ec) ∧ w'.cell? ⟨w.heap.size, 2, none⟩ = some (.slice go gn gc)) := Lib.hid (fun w' h => by
    have k : w'.heap[w.heap.size]? = some (.cells #[.int .i64 sz, .slice eo en ec, .slice go gn gc] 64 (0, 0)) := (h.block w.heap.size (by omega) (by simp)).trans (by rw [hw1]; exact heap_alloc_new _ _)
    refine ⟨?_, ?_, ?_⟩ <;> (rw [cell_of_row _ _ _ _ _ _ k]; rfl))
  rw [← hw1]
  clear hw1
  go_loopw [5, 6] (fun v i wr => ∃ (k : Nat) (ro : Option Addr) (rc q : Nat) (r : List Int), i = .int .i64 k ∧ k ≤ en ∧ v = .slice ro q rc ∧ q ≤ 2 * k ∧ Hid (r.length = q ∧ r.Pairwise (· < ·) ∧ ∀ y, y ∈ r ↔ y ∈ nbI (es.take k) key) ∧ Hid (OwnI wr w1.heap.size ro rc r) ∧ Hid (Ex w1.heap.size none w1 wr)) (fun _ i _ => en - (intOf i).toNat)
  case atStart => exact ⟨0, none, 0, 0, [], rfl, Nat.zero_le _, rfl, by omega, Lib.hid ⟨rfl, List.Pairwise.nil, fun y => by rw [mem_nbI]; simp⟩, Lib.hid (OwnI.nil _ _), Lib.hid (Ex.refl _ _ _)⟩
  case round =>
    obtain ⟨k, ro, rc, q, r, rfl, hk, rfl, hq, HR, HO, HEX⟩ := hrel
    have hszr : w1.heap.size ≤ wr.heap.size := HEX.out.size
    obtain ⟨c0, c1, c2⟩ := HC.out _ HEX.out
    by_cases hlt : k < en
    · have hltI : (k : Int) < (en : Int) := by omega
      obtain ⟨b, off, ⟨f, t, l⟩, rfl, _, hbl, e0, e1, _, HK⟩ := ed_get (HX.out.keep (by decide) fun b _ hb => (HEX.out.block b (by omega) (by simp)).trans (HE1.out.block b hb (by simp))) k (by rw [HN.out]; exact hlt)
      simp only at e0 e1
      have HQ0 := Lib.hid e0
      have HQ1 := Lib.hid e1
      by_cases hf : f = key
      · by_cases ht : t = key
        · have hb0 : (f == key) = true := by simpa using hf
          have hb1 : (t == key) = true := by simpa using ht
          have HN2 : Hid (∀ y, y ∈ nbI (es.take (k + 1)) key ↔ y ∈ nbI (es.take k) key ∨ ((f = key ∧ t = y) ∨ (t = key ∧ f = y))) := Lib.hid (fun y => by rw [ed_up HK.out]; exact mem_nbI_snoc)
          have HF := Lib.hid hf
          have HT := Lib.hid ht
          clear hf ht
          go_wp2_with (first
            | (go_at_call 80
               (fail_if_success (first | have _x := HR2 | fail)); refine (put11_any ro q rc r t wr (HO.out).ints HR.out.1 HR.out.2.1 (by omega) (by have h := (HO.out).cap; rw [HR.out.1] at h; exact h)).mono ?_
               rintro e w2 ⟨ro2, rc2, q2, rfl, r2, ⟨hl2, hq2⟩, hs2, hm2, ho2, hex⟩
               have HE2 : Hid (Ex w1.heap.size none w1 w2) := Lib.hid (HEX.out.trans hex hszr (by simp))
               have HX2 : Hid (Ex wr.heap.size none wr w2) := Lib.hid (hex)
               have HR2 : Hid (r2.length = q2 ∧ r2.Pairwise (· < ·) ∧ ∀ y, y ∈ r2 ↔ y = t ∨ y ∈ r) := Lib.hid ⟨hl2, hs2, hm2⟩
               have HO2 : Hid (OwnI w2 w1.heap.size ro2 rc2 r2) := Lib.hid ((ho2.e.lowerE (by omega)).i)
               have hz2 : w1.heap.size ≤ w2.heap.size := HE2.out.size
               clear hl2 hs2 hm2 ho2 hex c0 c1 c2 e0 e1
               obtain ⟨c0, c1, c2⟩ := HC.out _ HE2.out
               have e0 := (World.cell?_of_block (w := wr) (a := ⟨b, off + k * 3, none⟩) (HX2.out.block b hbl (by simp))).trans HQ0.out
               have e1 := (World.cell?_of_block (w := wr) (a := ⟨b, off + k * 3 + 1, none⟩) (HX2.out.block b hbl (by simp))).trans HQ1.out)
            | (go_at_call 80
               refine (put11_any ro2 q2 rc2 r2 f w2 (HO2.out).ints HR2.out.1 HR2.out.2.1 (by omega) (by have h := (HO2.out).cap; rw [HR2.out.1] at h; exact h)).mono ?_
               rintro e w3 ⟨ro3, rc3, q3, rfl, r3, ⟨hl3, hq3⟩, hs3, hm3, ho3, hex⟩
               have HE3 : Hid (Ex w1.heap.size none w1 w3) := Lib.hid (HE2.out.trans hex hz2 (by simp))
               have HX3 : Hid (Ex wr.heap.size none wr w3) := Lib.hid (HX2.out.trans hex HX2.out.size (by simp))
               have HR3 : Hid (r3.length = q3 ∧ r3.Pairwise (· < ·) ∧ ∀ y, y ∈ r3 ↔ y = f ∨ y ∈ r2) := Lib.hid ⟨hl3, hs3, hm3⟩
               have HO3 : Hid (OwnI w3 w1.heap.size ro3 rc3 r3) := Lib.hid ((ho3.e.lowerE (by omega)).i)
               have hz3 : w1.heap.size ≤ w3.heap.size := HE3.out.size
               clear hl3 hs3 hm3 ho3 hex c0 c1 c2 e0 e1
               obtain ⟨c0, c1, c2⟩ := HC.out _ HE3.out
               have e0 := (World.cell?_of_block (w := wr) (a := ⟨b, off + k * 3, none⟩) (HX3.out.block b hbl (by simp))).trans HQ0.out
               have e1 := (World.cell?_of_block (w := wr) (a := ⟨b, off + k * 3 + 1, none⟩) (HX3.out.block b hbl (by simp))).trans HQ1.out)
            | fail)
          go_roundw
          case rel =>
            refine ⟨k + 1, ro3, rc3, q3, r3, by go_num, by omega, rfl, by omega, Lib.hid ⟨HR3.out.1, HR3.out.2.1, fun y => ?_⟩, HO3, HE3⟩
            rw [HR3.out.2.2, HR2.out.2.2, HR.out.2.2, HN2.out y]
            have hf := HF.out
            have ht := HT.out
            constructor
            · intro h
              rcases h with h | h | h
              · exact .inr (.inr ⟨ht, h.symm⟩)
              · exact .inr (.inl ⟨hf, h.symm⟩)
              · exact .inl h
            · rintro (h | h | h)
              · exact .inr (.inr h)
              · exact .inr (.inl h.2.symm)
              · exact .inl h.2.symm
          case measure => simp [intOf] <;> omega
        · have hb0 : (f == key) = true := by simpa using hf
          have hb1 : (t == key) = false := by simpa using ht
          have HN2 : Hid (∀ y, y ∈ nbI (es.take (k + 1)) key ↔ y ∈ nbI (es.take k) key ∨ ((f = key ∧ t = y) ∨ (t = key ∧ f = y))) := Lib.hid (fun y => by rw [ed_up HK.out]; exact mem_nbI_snoc)
          have HF := Lib.hid hf
          have HT := Lib.hid ht
          clear hf ht
          go_wp2_with (first
            | (go_at_call 80
               (fail_if_success (first | have _x := HR2 | fail)); refine (put11_any ro q rc r t wr (HO.out).ints HR.out.1 HR.out.2.1 (by omega) (by have h := (HO.out).cap; rw [HR.out.1] at h; exact h)).mono ?_
               rintro e w2 ⟨ro2, rc2, q2, rfl, r2, ⟨hl2, hq2⟩, hs2, hm2, ho2, hex⟩
               have HE2 : Hid (Ex w1.heap.size none w1 w2) := Lib.hid (HEX.out.trans hex hszr (by simp))
               have HX2 : Hid (Ex wr.heap.size none wr w2) := Lib.hid (hex)
               have HR2 : Hid (r2.length = q2 ∧ r2.Pairwise (· < ·) ∧ ∀ y, y ∈ r2 ↔ y = t ∨ y ∈ r) := Lib.hid ⟨hl2, hs2, hm2⟩
               have HO2 : Hid (OwnI w2 w1.heap.size ro2 rc2 r2) := Lib.hid ((ho2.e.lowerE (by omega)).i)
               have hz2 : w1.heap.size ≤ w2.heap.size := HE2.out.size
               clear hl2 hs2 hm2 ho2 hex c0 c1 c2 e0 e1
               obtain ⟨c0, c1, c2⟩ := HC.out _ HE2.out
               have e0 := (World.cell?_of_block (w := wr) (a := ⟨b, off + k * 3, none⟩) (HX2.out.block b hbl (by simp))).trans HQ0.out
               have e1 := (World.cell?_of_block (w := wr) (a := ⟨b, off + k * 3 + 1, none⟩) (HX2.out.block b hbl (by simp))).trans HQ1.out)
            | fail)
          go_roundw
          case rel =>
            refine ⟨k + 1, ro2, rc2, q2, r2, by go_num, by omega, rfl, by omega, Lib.hid ⟨HR2.out.1, HR2.out.2.1, fun y => ?_⟩, HO2, HE2⟩
            rw [HR2.out.2.2, HR.out.2.2, HN2.out y]
            have hf := HF.out
            have ht := HT.out
            constructor
            · intro h
              rcases h with h | h
              · exact .inr (.inl ⟨hf, h.symm⟩)
              · exact .inl h
            · rintro (h | h | h)
              · exact .inr h
              · exact .inl h.2.symm
              · exact absurd h.1 ht
          case measure => simp [intOf] <;> omega
      · by_cases ht : t = key
        · have hb0 : (f == key) = false := by simpa using hf
          have hb1 : (t == key) = true := by simpa using ht
          have HN2 : Hid (∀ y, y ∈ nbI (es.take (k + 1)) key ↔ y ∈ nbI (es.take k) key ∨ ((f = key ∧ t = y) ∨ (t = key ∧ f = y))) := Lib.hid (fun y => by rw [ed_up HK.out]; exact mem_nbI_snoc)
          have HF := Lib.hid hf
          have HT := Lib.hid ht
          clear hf ht
          go_wp2_with (first
            | (go_at_call 80
               (fail_if_success (first | have _x := HR2 | fail)); refine (put11_any ro q rc r f wr (HO.out).ints HR.out.1 HR.out.2.1 (by omega) (by have h := (HO.out).cap; rw [HR.out.1] at h; exact h)).mono ?_
               rintro e w2 ⟨ro2, rc2, q2, rfl, r2, ⟨hl2, hq2⟩, hs2, hm2, ho2, hex⟩
               have HE2 : Hid (Ex w1.heap.size none w1 w2) := Lib.hid (HEX.out.trans hex hszr (by simp))
               have HX2 : Hid (Ex wr.heap.size none wr w2) := Lib.hid (hex)
               have HR2 : Hid (r2.length = q2 ∧ r2.Pairwise (· < ·) ∧ ∀ y, y ∈ r2 ↔ y = f ∨ y ∈ r) := Lib.hid ⟨hl2, hs2, hm2⟩
               have HO2 : Hid (OwnI w2 w1.heap.size ro2 rc2 r2) := Lib.hid ((ho2.e.lowerE (by omega)).i)
               have hz2 : w1.heap.size ≤ w2.heap.size := HE2.out.size
               clear hl2 hs2 hm2 ho2 hex c0 c1 c2 e0 e1
               obtain ⟨c0, c1, c2⟩ := HC.out _ HE2.out
               have e0 := (World.cell?_of_block (w := wr) (a := ⟨b, off + k * 3, none⟩) (HX2.out.block b hbl (by simp))).trans HQ0.out
               have e1 := (World.cell?_of_block (w := wr) (a := ⟨b, off + k * 3 + 1, none⟩) (HX2.out.block b hbl (by simp))).trans HQ1.out)
            | fail)
          go_roundw
          case rel =>
            refine ⟨k + 1, ro2, rc2, q2, r2, by go_num, by omega, rfl, by omega, Lib.hid ⟨HR2.out.1, HR2.out.2.1, fun y => ?_⟩, HO2, HE2⟩
            rw [HR2.out.2.2, HR.out.2.2, HN2.out y]
            have hf := HF.out
            have ht := HT.out
            constructor
            · intro h
              rcases h with h | h
              · exact .inr (.inr ⟨ht, h.symm⟩)
              · exact .inl h
            · rintro (h | h | h)
              · exact .inr h
              · exact absurd h.1 hf
              · exact .inl h.2.symm
          case measure => simp [intOf] <;> omega
        · have hb0 : (f == key) = false := by simpa using hf
          have hb1 : (t == key) = false := by simpa using ht
          have HN2 : Hid (∀ y, y ∈ nbI (es.take (k + 1)) key ↔ y ∈ nbI (es.take k) key ∨ ((f = key ∧ t = y) ∨ (t = key ∧ f = y))) := Lib.hid (fun y => by rw [ed_up HK.out]; exact mem_nbI_snoc)
          have HF := Lib.hid hf
          have HT := Lib.hid ht
          clear hf ht
          go_wp2
          go_roundw
          case rel =>
            refine ⟨k + 1, ro, rc, q, r, by go_num, by omega, rfl, by omega, Lib.hid ⟨HR.out.1, HR.out.2.1, fun y => ?_⟩, HO, HEX⟩
            rw [HR.out.2.2, HN2.out y]
            have hf := HF.out
            have ht := HT.out
            constructor
            · intro h
              exact .inl h
            · rintro (h | h | h)
              · exact h
              · exact absurd h.1 hf
              · exact absurd h.1 ht
          case measure => simp [intOf] <;> omega
    · have hltI : ¬ (k : Int) < (en : Int) := by omega
      have hke : k = en := by omega
      have HEQ : Hid (r = nbI es key) := Lib.hid (strict_ext _ _ HR.out.2.1 (nbI_strict _ _) fun y => by rw [HR.out.2.2, hke, ← HN.out, List.take_length])
      clear hke
      go_wp2
      go_ret
      refine ⟨ro, rc, q, rfl, by rw [← HEQ.out]; exact HR.out.1, ?_, HE1.out.trans HEX.out (by omega) (by simp)⟩
      rw [← HEQ.out]
      exact (HO.out.e.lowerE (by omega)).i
end Go.Proofs.YtfllcohnfboccaaGreat

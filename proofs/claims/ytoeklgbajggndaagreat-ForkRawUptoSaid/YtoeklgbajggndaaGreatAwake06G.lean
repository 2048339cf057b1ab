/- law06.awake. No statement of the seat. -/
import Derived.Test.YtoeklgbajggndaaGreatMg13
import Derived.Test.YtoeklgbajggndaaGreatChkFPG
import Derived.Test.YtoeklgbajggndaaGreatMg12
import Derived.Test.YtoeklgbajggndaaGreatSeal03G
import Derived.Deep.MidRow
namespace Go.Proofs.YtoeklgbajggndaaGreat
open Go.RowKit Go.Sort

theorem fill_two (n : Nat) (zs cs ds : Array Value) (hz : zs.size = 2 * n) (hc : cs.size = n) (hd : ds.size = n) (hp : 0 < n) : Instr.fill (fun i => some (i * n, n)) zs [(0, .agg cs), (1, .agg ds)] = some (cs ++ ds) := by
  obtain ⟨r, h1, h2, h3⟩ := Great.fill_dense hp [.agg cs, .agg ds] 0 zs (by intro v hv; simp only [List.mem_cons, List.not_mem_nil, or_false] at hv; rcases hv with rfl | rfl <;> assumption) (by simp; omega)
  have e : r = cs ++ ds := by
    apply Array.ext_getElem?
    intro k
    rw [h3 k]
    by_cases hk : k < n
    · rw [if_pos (by simp; omega), Array.getElem?_append_left (by omega)]
      simp [Nat.div_eq_of_lt hk, Nat.mod_eq_of_lt hk, Value.cells]
    · by_cases hk2 : k < 2 * n
      · have e1 : k / n = 1 := Nat.div_eq_of_lt_le (by omega) (by omega)
        have e2 : k % n = k - n := by rw [Nat.mod_eq_sub_mod (by omega), Nat.mod_eq_of_lt (by omega)]
        rw [if_pos (by simp; omega), Array.getElem?_append_right (by omega), e1, e2, hc]
        simp [Value.cells]
      · rw [if_neg (by simp; omega), Array.getElem?_eq_none (by omega), Array.getElem?_eq_none (by simp; omega)]
  rw [e] at h1
  exact h1
theorem run_rowBuild2 {P : Program} (w : World) (t e : TypeId) (cs ds : Array Value) (n bytes : Nat) (z : Value) (hu : P.underlying t = some (.slice e)) (hi : (P.info? e).map (fun i => (i.zero, i.size, i.bytes)) = some (some z, n, bytes))
    (hn : 0 < n) (hb : n ≤ 1000) (hc : cs.size = n) (hd : ds.size = n) : (rowBuild t 2 #[(0, .agg cs), (1, .agg ds)]).run P w = .ok (.slice (some ⟨w.heap.size, 0, none⟩) 2 2) (w.alloc (.cells (cs ++ ds) e)) := by
  cases hq : P.info? e with
  | none => rw [hq] at hi; cases hi
  | some ie =>
    rw [hq] at hi
    simp only [Option.map_some, Option.some.injEq, Prod.mk.injEq] at hi
    obtain ⟨h1, h2, _⟩ := hi
    refine run_buildSlice w t e 2 _ (cs ++ ds) ie z hu hq h1 (by rw [h2]; omega) (by rw [h2]; omega) ?_
    rw [h2]
    exact fill_two n _ cs ds (by simp) hc hd hn
/-- Two statements in one new row. -/
theorem two_sl {P : Nat → Prop} (w : World) (s t : St) (lo po : Option Addr) (ln lc pn pc : Nat) (lb pb : Option Addr) (nb cb mp cq : Nat) (hs : Lies P w (s, ⟨lo, ln, lc⟩, ⟨po, pn, pc⟩)) (ht : Lies P w (t, ⟨lb, nb, cb⟩, ⟨pb, mp, cq⟩)) (ty : TypeId) (cs ds : Array Value)
    (hc : cs = (stE (s, ⟨lo, ln, lc⟩, ⟨po, pn, pc⟩)).toArray) (hd : ds = (stE (t, ⟨lb, nb, cb⟩, ⟨pb, mp, cq⟩)).toArray) :
    Sl stRep (fun _ => True) (w.alloc (.cells (cs ++ ds) ty)) (.slice (some ⟨w.heap.size, 0, none⟩) 2 2) [s, t] := by
  have hb := heap_alloc_new w (.cells (cs ++ ds) ty)
  have hk : ∀ (u : St × Sv × Sv), Lies P w u → Lies (fun _ => True) (w.alloc (.cells (cs ++ ds) ty)) u := fun u h => (h.keep fun b _ hlt => (Ex.new w _).block b hlt (by simp)).mono fun _ _ _ => trivial
  refine ⟨some ⟨w.heap.size, 0, none⟩, 2, rfl, fun i hi => ?_⟩
  match i, hi with
  | 0, _ =>
    refine ⟨w.heap.size, 0, stE (s, ⟨lo, ln, lc⟩, ⟨po, pn, pc⟩), rfl, trivial, fun j v hv => ?_, ⟨⟨lo, ln, lc⟩, ⟨po, pn, pc⟩, rfl, hk _ hs⟩⟩
    rw [cell_of_row _ _ _ _ _ _ hb, hc, hd]
    have hj : j < 13 := (List.getElem?_eq_some_iff.1 hv).1
    rw [Array.getElem?_append_left (by simpa [stE] using hj)]
    simpa using hv
  | 1, _ =>
    refine ⟨w.heap.size, 0, stE (t, ⟨lb, nb, cb⟩, ⟨pb, mp, cq⟩), rfl, trivial, fun j v hv => ?_, ⟨⟨lb, nb, cb⟩, ⟨pb, mp, cq⟩, rfl, hk _ ht⟩⟩
    rw [cell_of_row _ _ _ _ _ _ hb, hc, hd]
    have e13 : (stE (s, ⟨lo, ln, lc⟩, ⟨po, pn, pc⟩)).toArray.size = 13 := rfl
    rw [Array.getElem?_append_right (by rw [e13]; show 13 ≤ 0 + 1 * 13 + j; omega), e13, show 0 + 1 * stRep.k + j - 13 = j by show 0 + 1 * 13 + j - 13 = j; omega]
    simpa using hv
theorem sA_tame : Tame sA := checkI_tame sA_check
theorem sB_tame : Tame sB := checkI_tame sB_check
theorem one_of_map {α β : Type} {f : α → β} {xs : List α} {b : β} (h : xs.map f = [b]) : ∃ x, xs = [x] ∧ f x = b := by
  cases xs with
  | nil => cases h
  | cons x r =>
    simp only [List.map_cons, List.cons.injEq, List.map_eq_nil_iff] at h
    exact ⟨x, by rw [h.2], h.1⟩
theorem tameAB : TameL [sA, sB] := fun s hs => by
  simp only [List.mem_cons, List.not_mem_nil, or_false] at hs
  rcases hs with rfl | rfl
  · exact sA_tame
  · exact sB_tame
theorem Tryz.sizeSto : (Tryz.prog.info? 37).map (·.size) = some 1 := by kernel_rfl
/-- The sealing of one of the two. -/
theorem sealA (w : World) : Calls Tryz.prog 7 #[.agg #[.int .i64 3, .int .i64 0, .string ⟨#[]⟩, .int .i64 0, .int .i64 10, .int .i64 0, .int .i64 0, .int .i64 0, .slice none 0 0, .slice none 0 0, .string ⟨#[]⟩, .int .i64 0, .string ⟨#[]⟩]] w fun e w' => ∃ (la : Option Addr) (na ca : Nat) (pa : Option Addr) (ma qa : Nat), e = .returned (.agg (rSt sA la na ca pa ma qa)) ∧ Lies (fun b => w.heap.size ≤ b) w' (sA, ⟨la, na, ca⟩, ⟨pa, ma, qa⟩) ∧ Ex w.heap.size none w w' :=
  seal03_any (P := fun _ => True) (baseS 10) none none 0 0 0 0 w (Lies.zero _ _) ⟨by decide, by decide, by decide, by decide, by decide⟩
theorem sealB (w : World) : Calls Tryz.prog 7 #[.agg #[.int .i64 3, .int .i64 0, .string ⟨#[]⟩, .int .i64 0, .int .i64 11, .int .i64 0, .int .i64 0, .int .i64 0, .slice none 0 0, .slice none 0 0, .string ⟨#[]⟩, .int .i64 0, .string ⟨#[]⟩]] w fun e w' => ∃ (lb : Option Addr) (nb cb : Nat) (pb : Option Addr) (mb qb : Nat), e = .returned (.agg (rSt sB lb nb cb pb mb qb)) ∧ Lies (fun b => w.heap.size ≤ b) w' (sB, ⟨lb, nb, cb⟩, ⟨pb, mb, qb⟩) ∧ Ex w.heap.size none w w' :=
  seal03_any (P := fun _ => True) (baseS 11) none none 0 0 0 0 w (Lies.zero _ _) ⟨by decide, by decide, by decide, by decide, by decide⟩
theorem rowBuild_st (n : Nat) (ps : Array (Nat × Value)) : Instr.buildSlice 35 n ps = rowBuild 35 n ps := rfl
theorem rowLoad_sto (a : Addr) : loadVar 37 a = rowLoad 37 a := rfl
theorem rowStore_sto (a : Addr) (v : Value) : storeVar 37 a v = rowStore 37 a v := rfl
attribute [local go_sem ↓] rowStore_st rowLoad_st rowLoad_fork rowBuild_st rowStore_sto rowLoad_sto

set_option maxHeartbeats 16000000 in
set_option maxRecDepth 100000 in
theorem awake06_any (w : World) :
    Calls Tryz.prog 6 #[] w fun e w' => e = .returned (.bool true) ∧ Ex w.heap.size none w w' := by
  go_enter Tryz.func6, Tryz.ntmps6
  go_upto_region 1 with (fail)
  go_upto_region 2 with (first
    | (go_at_call 7
       fail_if_success (first | have _x := HX1 | fail)
       refine (sealA w).mono ?_
       rintro e w1 ⟨la, na, ca, pa, ma, qa, rfl, hls, hex⟩
       have HX1 : Hid (Ex w.heap.size none w w1) := Lib.hid hex
       have HL1 := Lib.hid hls
       clear hls hex)
    | (go_at_call 7
       fail_if_success (first | have _x := HX2 | fail)
       refine (sealB w1).mono ?_
       rintro e w2 ⟨lb, nb, cb, pb, mb, qb, rfl, hls, hex⟩
       have HX2 : Hid (Ex w.heap.size none w w2) := Lib.hid (HX1.out.trans hex HX1.out.size (by simp))
       have HL2 := Lib.hid hls
       have HK2 := Lib.hid (HL1.out.keep fun b _ hb => hex.block b hb (by simp))
       clear hls hex
       have g0 : ((w2.alloc (.cells zSt 27)).alloc (.cells zSt 27)).heap[w2.heap.size]? = some (.cells zSt 27 (0, 0)) := ((Ex.new (w2.alloc (.cells zSt 27)) (.cells zSt 27)).block w2.heap.size (by simp) (by simp)).trans (heap_alloc_new w2 _)
       have g1 : ((w2.alloc (.cells zSt 27)).alloc (.cells zSt 27)).heap[w2.heap.size + 1]? = some (.cells zSt 27 (0, 0)) := by have := heap_alloc_new (w2.alloc (.cells zSt 27)) (.cells zSt 27); rwa [World.size_alloc] at this
       have hs1 := run_rowStore (P := Tryz.prog) _ w2.heap.size 27 27 zSt (rSt sA la na ca pa ma qa) g0 Tryz.sizeStm rfl (by simp [Value.oneCell'])
       obtain ⟨w3, hw3⟩ : ∃ w3, w3 = ((w2.alloc (.cells zSt 27)).alloc (.cells zSt 27)).setRow w2.heap.size (rSt sA la na ca pa ma qa) := ⟨_, rfl⟩
       rw [← hw3] at hs1
       have hx3 : Ex w2.heap.size none w2 w3 := by rw [hw3]; exact ((Ex.new w2 _).trans (Ex.new _ _) (by simp) (by simp)).setRow _ _ (.inr (Nat.le_refl _))
       have h30 : w3.heap[w2.heap.size]? = some (.cells (rSt sA la na ca pa ma qa) 27 (0, 0)) := by rw [hw3]; exact setRow_heap _ _ _ _ _ _ g0
       have hxs : Ex (w2.heap.size + 2) (some w2.heap.size) ((w2.alloc (.cells zSt 27)).alloc (.cells zSt 27)) w3 := by rw [hw3]; exact (Ex.refl _ _ _).setRow _ _ (.inl rfl)
       have h31 : w3.heap[w2.heap.size + 1]? = some (.cells zSt 27 (0, 0)) := (hxs.block _ (by omega) (by intro e; have := Option.some.inj e; omega)).trans g1
       have hz3 : w2.heap.size + 2 ≤ w3.heap.size := by have := hxs.size; simpa using this
       have hs2 := run_rowStore (P := Tryz.prog) w3 (w2.heap.size + 1) 27 27 zSt (rSt sB lb nb cb pb mb qb) h31 Tryz.sizeStm rfl (by simp [Value.oneCell'])
       obtain ⟨w4, hw4⟩ : ∃ w4, w4 = w3.setRow (w2.heap.size + 1) (rSt sB lb nb cb pb mb qb) := ⟨_, rfl⟩
       rw [← hw4] at hs2
       have hx4 : Ex w2.heap.size none w2 w4 := by rw [hw4]; exact hx3.setRow _ _ (.inr (by omega))
       have hxt : Ex w3.heap.size (some (w2.heap.size + 1)) w3 w4 := by rw [hw4]; exact (Ex.refl _ _ _).setRow _ _ (.inl rfl)
       have h40 : w4.heap[w2.heap.size]? = some (.cells (rSt sA la na ca pa ma qa) 27 (0, 0)) := (hxt.block _ (by omega) (by intro e; have := Option.some.inj e; omega)).trans h30
       have h41 : w4.heap[w2.heap.size + 1]? = some (.cells (rSt sB lb nb cb pb mb qb) 27 (0, 0)) := by rw [hw4]; exact setRow_heap _ _ _ _ _ _ h31
       have hz4 : w2.heap.size + 2 ≤ w4.heap.size := by have := hxt.size; omega
       have HX4 : Hid (Ex w.heap.size none w w4) := Lib.hid (HX2.out.trans hx4 HX2.out.size (by simp))
       have HL4 := Lib.hid (And.intro (HK2.out.keep fun b _ hb => hx4.block b hb (by simp)) (HL2.out.keep fun b _ hb => hx4.block b hb (by simp)))
       have hl1 := run_rowLoad (P := Tryz.prog) w4 w2.heap.size 27 27 (rSt sA la na ca pa ma qa) (0, 0) _ h40 Tryz.underlying27 rfl Tryz.sizeStm
       have hl2 := run_rowLoad (P := Tryz.prog) w4 (w2.heap.size + 1) 27 27 (rSt sB lb nb cb pb mb qb) (0, 0) _ h41 Tryz.underlying27 rfl Tryz.sizeStm
       clear hw3 hw4 hx3 hx4 hxs hxt g0 g1 h30 h31 h40 h41 hz3 HK2 HL1 HL2)
    | fail)
  clear hs1 hs2
  obtain ⟨z, hz⟩ : ∃ z, (Tryz.prog.info? 27).map (fun i => (i.zero, i.size, i.bytes)) = some (some z, 13, 160) := ⟨_, Tryz.infoSt⟩
  have hbd := run_rowBuild2 w4 35 27 (rSt sA la na ca pa ma qa) (rSt sB lb nb cb pb mb qb) 13 160 z Tryz.underlying35 hz (by decide) (by decide) rfl rfl
  have HSL := Lib.hid (two_sl w4 sA sB la pa na ca ma qa lb pb nb cb mb qb HL4.out.1 (HL4.out.2.mono fun b hb _ => Nat.le_trans HX1.out.size hb) 27 (rSt sA la na ca pa ma qa) (rSt sB lb nb cb pb mb qb) rfl rfl)
  obtain ⟨w5, hw5⟩ : ∃ w5, w5 = w4.alloc (.cells ((rSt sA la na ca pa ma qa) ++ (rSt sB lb nb cb pb mb qb)) 27) := ⟨_, rfl⟩
  have HX5 : Hid (Ex w.heap.size none w w5) := Lib.hid (by rw [hw5]; exact HX4.out.trans (Ex.new w4 _) HX4.out.size (by simp))
  rw [← hw5] at hbd HSL
  clear hw5 hz HL4
  generalize ((rSt sA la na ca pa ma qa) : Array Value) = a13 at *
  generalize ((rSt sB lb nb cb pb mb qb) : Array Value) = b13 at *
  go_upto_region 3 with (first
    | (go_at_call 12
       refine (storeOf_any _ [sA, sB] w5 HSL.out (by decide) tameAB).mono ?_
       rintro e w6 ⟨ro, rc, k, rfl, hk, hown, hex⟩
       have HX6 : Hid (Ex w.heap.size none w w6) := Lib.hid (HX5.out.trans hex HX5.out.size (by simp))
       have HO6 := Lib.hid hown
       have HK6 := Lib.hid hk
       have hs1 := run_rowStore (P := Tryz.prog) (w6.alloc (.cells #[.slice none 0 0] 37)) w6.heap.size 37 37 #[.slice none 0 0] #[.slice ro k rc] (heap_alloc_new w6 _) Tryz.sizeSto rfl (by simp [Value.oneCell'])
       obtain ⟨w7, hw7⟩ : ∃ w7, w7 = (w6.alloc (.cells #[.slice none 0 0] 37)).setRow w6.heap.size #[.slice ro k rc] := ⟨_, rfl⟩
       rw [← hw7] at hs1
       have hx7 : Ex w6.heap.size none w6 w7 := by rw [hw7]; exact (Ex.new w6 _).setRow _ _ (.inr (Nat.le_refl _))
       have hb7 : w7.heap[w6.heap.size]? = some (.cells #[.slice ro k rc] 37 (0, 0)) := by rw [hw7]; exact setRow_heap _ _ _ _ _ _ (heap_alloc_new w6 _)
       have hz7 : w6.heap.size < w7.heap.size := by rw [hw7]; simp [World.setRow]
       have HX7 : Hid (Ex w.heap.size none w w7) := Lib.hid (HX6.out.trans hx7 HX6.out.size (by simp))
       have HO7 : Hid (OwnS w7 w5.heap.size ro rc (storeL [sA, sB])) := Lib.hid (hown.keep hx7 (Nat.le_refl _))
       have HR : Hid (∀ w', Ex w7.heap.size none w7 w' → (rowLoad 37 ⟨w6.heap.size, 0, none⟩).run Tryz.prog w' = .ok (.agg #[.slice ro k rc]) w') := Lib.hid (fun w' h => run_rowLoad w' w6.heap.size 37 37 #[.slice ro k rc] (0, 0) _ ((h.block _ hz7 (by simp)).trans hb7) Tryz.underlying37 rfl Tryz.sizeSto)
       clear hk hown hex hw7 hx7 hb7 hz7 HO6)
    | fail)
  clear hs1 hl1 hl2 hbd HSL
  have HSA : Hid (∀ w', Ex w7.heap.size none w7 w' → SlAt stRep (fun _ => True) w' ro (storeL [sA, sB])) := Lib.hid (fun w' h => ((HO7.out.keep h (Nat.le_refl _)).at').mono (by decide) fun _ _ _ => trivial)
  have HKL : Hid (k ≤ 100000) := Lib.hid (by have := storeAB.length_eq; rw [HK6.out, this]; decide)
  have HLI : Hid (LightL 1000000 (storeL [sA, sB])) := Lib.hid (TameL.light fun s hs => tameAB s (storeAB.mem_iff.1 hs))
  have hr := HR.out _ (Ex.refl _ _ _)
  go_upto_region 4 with (first
    | (go_at_call 13
       refine (findP_any ro rc k (storeL [sA, sB]) w7 HK6.out.symm (HSA.out _ (Ex.refl _ _ _)) HKL.out HLI.out).mono ?_
       rintro e w8 ⟨fo, m, fc, xs, rfl, hm, hf, hown, hls, hex⟩
       have HX8 : Hid (Ex w7.heap.size none w7 w8) := Lib.hid hex
       have HF8 := Lib.hid (And.intro hf (And.intro hown hls))
       have HM8 := Lib.hid hm
       clear hf hown hls hex hm hr
       have hr := HR.out _ HX8.out)
    | fail)
  go_upto_region 5 with (first
    | (go_at_call 14
       refine (guiltyP_any ro rc k (storeL [sA, sB]) w8 HK6.out.symm (HSA.out _ HX8.out) HKL.out HLI.out).mono ?_
       rintro e w9 ⟨go, gc, ys, p, rfl, he, hp, hown, hex⟩
       have HY9 : Hid (ys = [3]) := Lib.hid (he.trans (guiltyAB hp))
       have HX9 : Hid (Ex w7.heap.size none w7 w9) := Lib.hid (HX8.out.trans hex HX8.out.size (by simp))
       have HG9 := Lib.hid hown
       have HXG := Lib.hid hex
       clear he hp hown hex)
    | fail)
  obtain ⟨u, v, he, hc, huv⟩ := findAB HF8.out.1
  obtain ⟨x0, hx0, hf0⟩ := one_of_map he
  subst hx0
  obtain ⟨⟨x, ⟨lc, nc, cc⟩, ⟨pc, mc, qc⟩⟩, ⟨y, ⟨ld, nd, cd⟩, ⟨pd, md, qd⟩⟩⟩ := x0
  have he2 : (x, y) = (u, v) := hf0
  obtain ⟨rfl, rfl⟩ := Prod.mk.inj he2
  clear he he2 hf0
  obtain rfl : 1 = m := HM8.out
  have hfo : ∃ g, fo = some ⟨g, 0, none⟩ := by
    rcases HF8.out.2.1.cases with ⟨_, _, h⟩ | ⟨g, h, _⟩
    · cases h
    · exact ⟨g, h⟩
  obtain ⟨g, rfl⟩ := hfo
  have HRX : Hid (∀ w', Ex w8.heap.size none w8 w' → (rowLoad 29 ⟨g, 0, none⟩).run Tryz.prog w' = .ok (.agg (rFk x lc nc cc pc mc qc y ld nd cd pd md qd)) w') := Lib.hid (fun w' h => by
    obtain ⟨_, _, _, _, h1, _⟩ := own_there (HF8.out.2.1.keep h (Nat.le_refl _) (by simp))
    exact run_loadVar_mid w' g 0 29 [.int .i64 x.author, .int .i64 x.number, .string x.prev, .int .i64 x.time, .int .i64 x.kind, .int .i64 x.a, .int .i64 x.b, .int .i64 x.c, .slice lc nc cc, .slice pc mc qc, .string x.body, .int .i64 x.key, .string x.dig, .int .i64 y.author, .int .i64 y.number, .string y.prev, .int .i64 y.time, .int .i64 y.kind, .int .i64 y.a, .int .i64 y.b, .int .i64 y.c, .slice ld nd cd, .slice pd md qd, .string y.body, .int .i64 y.key, .string y.dig] _ (fun j v hv => by rw [Nat.zero_add]; exact h1 j v hv) Tryz.underlying29 rfl Tryz.sizeFork)
  have HTM : Hid (Tame x ∧ Tame y) := Lib.hid (by
    rcases huv with ⟨rfl, rfl⟩ | ⟨rfl, rfl⟩
    · exact ⟨sA_tame, sB_tame⟩
    · exact ⟨sB_tame, sA_tame⟩)
  have HCH : Hid (∀ w', Ex w8.heap.size none w8 w' → Calls Tryz.prog 15 #[.agg (rFk x lc nc cc pc mc qc y ld nd cd pd md qd)] w' fun e w'' => e = .returned (.int .i64 0) ∧ Ex w'.heap.size none w' w'') := Lib.hid (fun w' h => by
    have hl := HF8.out.2.2 _ (List.mem_singleton.2 rfl)
    have := checkFP_any x y lc pc nc cc mc qc ld pd nd cd md qd w' (hl.1.keep fun b _ hb => h.block b hb (by simp)) (hl.2.keep fun b _ hb => h.block b hb (by simp)) HTM.out.1 HTM.out.2
    rw [hc] at this
    exact this)
  have hgo : ∃ g2, go = some ⟨g2, 0, none⟩ ∧ ∀ w', Ex w9.heap.size none w9 w' → w'.cell? ⟨g2, 0, none⟩ = some (.int .i64 3) := by
    have hg := HG9.out
    rw [HY9.out] at hg
    obtain ⟨b, off, y, e, h1, h2⟩ := hg.ints.get 0 (by simp)
    obtain rfl : (3 : Int) = y := h2.out
    have h0 : off = 0 := by
      rw [e] at hg
      exact (own_there hg).1
    subst h0
    exact ⟨b, e, fun w' h => (World.cell?_of_block (w := w9) (h.block b (World.block_lt_of_cell? w9 _ h1) (by simp))).trans h1⟩
  obtain ⟨g2, rfl, hgc⟩ := hgo
  have HGC := Lib.hid hgc
  have HYL : Hid (ys.length = 1) := Lib.hid (by rw [HY9.out]; rfl)
  obtain ⟨n9, hn9⟩ : ∃ n, n = ys.length := ⟨_, rfl⟩
  rw [← hn9] at HYL ⊢
  obtain rfl : n9 = 1 := HYL.out
  have HXF : Hid (Ex w8.heap.size none w8 w9) := HXG
  clear hgc hn9 HG9 HF8 hc huv hr
  have hr1 := HRX.out _ HXF.out
  have hr2 := HR.out _ HX9.out
  have hg1 := HGC.out _ (Ex.refl _ _ _)
  generalize Value.agg (rFk x lc nc cc pc mc qc y ld nd cd pd md qd) = fx at *
  go_wp2_with (first
    | (go_at_call 15
       refine (HCH.out _ HXF.out).mono ?_
       rintro e wa ⟨rfl, hex⟩
       have HXa : Hid (Ex w9.heap.size none w9 wa) := Lib.hid hex
       have HXA : Hid (Ex w7.heap.size none w7 wa) := Lib.hid (HX9.out.trans hex HX9.out.size (by simp))
       clear hex hr1 hr2 hg1
       have hr2 := HR.out _ HXA.out
       have hg1 := HGC.out _ HXa.out)
    | (go_at_call 16
       fail_if_success (first | have _x := HXB | fail)
       refine (fromP_any ro rc k (storeL [sA, sB]) 3 wa HK6.out.symm (HSA.out _ HXA.out) HKL.out HLI.out).mono ?_
       rintro e wb ⟨ls, hls, rfl, hex⟩
       have HV1 : Hid (fromI (forkF ls) = 0) := Lib.hid (fromAB3 hls)
       have HXB : Hid (Ex w7.heap.size none w7 wb) := Lib.hid (HXA.out.trans hex HXA.out.size (by simp))
       clear hex hls hr2 hg1
       have hr2 := HR.out _ HXB.out
       rw [HV1.out])
    | (go_at_call 16
       refine (fromP_any ro rc k (storeL [sA, sB]) 2 wb HK6.out.symm (HSA.out _ HXB.out) HKL.out HLI.out).mono ?_
       rintro e wc ⟨ls2, hls, rfl, hex⟩
       have HV2 : Hid (fromI (forkF ls2) = -1) := Lib.hid (fromAB (by decide) hls)
       have HXC : Hid (Ex w7.heap.size none w7 wc) := Lib.hid (HXB.out.trans hex HXB.out.size (by simp))
       clear hex hls
       rw [HV2.out])
    | fail)
  go_ret
  exact ⟨rfl, HX7.out.trans HXC.out HX7.out.size (by simp)⟩
end Go.Proofs.YtoeklgbajggndaaGreat

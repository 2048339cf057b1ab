/- proof.Against, proof.Guilty: contracts. No statement of the seat. | law36.awake: a contract. No statement of the seat. | mill.Content: a contract. No statement of the seat. | mill.Vote: a contract. No statement of the seat. | law36.papers: a contract. No statement of the seat. -/
import Derived.Test.YtaihmldiglgipaaGreatMg14
import Derived.Test.YtaihmldiglgipaaGreatMg03
import Derived.Test.YtaihmldiglgipaaGreatMg15
import Derived.Test.YtaihmldiglgipaaGreatMg12
import Derived.Test.YtaihmldiglgipaaGreatMg02
import Derived.Deep.Cut
import Derived.Test.YtaihmldiglgipaaGreatMg05
import Derived.Deep.RegionHeld3
namespace Go.Proofs.YtaihmldiglgipaaGreat
open Go.RowKit Go.Sort
attribute [local go_sem ↓] rowLoad_stv rowStore_stv rowLoad_prf rowStore_prf

set_option maxHeartbeats 4000000 in
set_option maxRecDepth 100000 in
theorem against_any (x : PrX) (w : World) : Calls Tryz.prog 23 #[prV x] w fun e w' => e = .returned (.int .i64 x.2.1.1.author) ∧ Ex w.heap.size none w w' := by
  obtain ⟨ws, hws⟩ : ∃ ws : World, ws = w.alloc (.cells (prV x).cells 37) := ⟨_, rfl⟩
  have HEs : Hid (Ex w.heap.size none w ws) := Lib.hid (by rw [hws]; exact Ex.new w _)
  have c0 : ws.cell? ⟨w.heap.size, 1, none⟩ = some (.int .i64 x.2.1.1.author) := by
    rw [prV_cell (x := x) (by rw [hws]; exact heap_alloc_new w _) 1]; rfl
  have hnx := prV_new w #[.int .i64 0, .int .i64 0, .int .i64 0, .string ⟨#[]⟩, .int .i64 0, .int .i64 0, .int .i64 0, .int .i64 0, .int .i64 0, .slice none 0 0, .slice none 0 0, .string ⟨#[]⟩, .int .i64 0, .string ⟨#[]⟩, .int .i64 0, .int .i64 0, .string ⟨#[]⟩, .int .i64 0, .int .i64 0, .int .i64 0, .int .i64 0, .int .i64 0, .slice none 0 0, .slice none 0 0, .string ⟨#[]⟩, .int .i64 0, .string ⟨#[]⟩] x rfl
  go_enter Tryz.func23, Tryz.ntmps23
  go_upto_region 1 with (fail)
  refine wp_world (fun W => W = ws) (by rw [hws]; rfl) (fun W hW => ?_)
  rw [hW]
  clear hW W hws hnx
  go_wp2
  go_ret
  exact ⟨rfl, HEs.out⟩
/-- What proof.Guilty answers. -/
def GuiltyE (l : List St) (e : Ending) (w' : World) : Prop := ∃ (ro : Option Addr) (rc : Nat) (ps : List PrD), FindR l 64 ps ∧ e = .returned (.slice ro (Lib.compact (ps.map fun p => p.2.1.author)).length rc) ∧ IntsAt w' ro (Lib.compact (ps.map fun p => p.2.1.author))
set_option maxHeartbeats 16000000 in
set_option maxRecDepth 100000 in
theorem guiltyV_any {P : Nat → Prop} (v : Value) (l : List St) (w : World) (hv : Sl stRep P w v l) (hm : l.length ≤ 100000) (hL : ∀ s ∈ l, LightS s) :
    Calls Tryz.prog 20 #[v] w fun e w' => GuiltyE l e w' ∧ Ex w.heap.size none w w' := by
  have HV := Lib.hid hv
  have HLL := Lib.hid hL
  clear hv hL
  have hli : (Tryz.prog.info? 3).map (fun i => (i.zero, i.size, i.bytes)) = some (some (.int .i64 0), 1, 8) := by kernel_rfl
  have HLI := Lib.hid hli
  clear hli
  go_enter Tryz.func20, Tryz.ntmps20
  go_wp2_with (first
    | (go_at_call 8
       refine (findV_any v l w HV.out hm HLL.out).mono ?_
       rintro e w1 ⟨⟨po, pc, ps, rfl, hfr, hsl⟩, hex1⟩
       have H1 : Hid (FindR l 64 ps ∧ SlAt prRep (fun _ => True) w1 po ps ∧ Ex w.heap.size none w w1) := Lib.hid ⟨hfr, hsl, hex1⟩
       have hz1 : w.heap.size ≤ w1.heap.size := hex1.size
       have hlen : ps.length ≤ 6400064 := by have h1 := hfr.len; have h2 := Nat.mul_le_mul (Nat.le_refl 64) (show l.length + 1 ≤ 100001 by omega); omega
       clear hfr hsl hex1)
    | fail)
  obtain ⟨m, hmc⟩ : ∃ m, m = ps.length := ⟨_, rfl⟩
  have HM := Lib.hid hmc
  rw [← hmc] at hlen ⊢
  clear hmc
  go_loopw [3, 9] (fun v i wr => ∃ (k : Nat) (ro : Option Addr) (rc : Nat) (xs : List Int), k ≤ m ∧ i = .int .i64 k ∧ v = .slice ro k rc ∧ Hid (xs = (ps.take k).map fun p => p.2.1.author) ∧ Hid (xs.length = k) ∧ OwnI wr w1.heap.size ro rc xs ∧ Ex w1.heap.size none w1 wr) (fun _ i _ => m - (intOf i).toNat)
  case atStart => exact ⟨0, none, 0, [], by omega, rfl, rfl, Lib.hid (by simp), Lib.hid rfl, OwnI.nil _ _, Ex.refl _ _ _⟩
  case round =>
    obtain ⟨k, ro, rc, xs, hk, rfl, rfl, HA, HXL, hown, hex⟩ := hrel
    have hsz := hex.size
    have HEX := Lib.hid hex
    have HO := Lib.hid hown
    clear hown hex
    by_cases hlt : k < m
    · have hltI : (k : Int) < (m : Int) := by omega
      obtain ⟨b, off, x, rfl, _, hbl, HXk, _, HR⟩ := prv_get H1.out.2.1 k (by rw [← HM.out]; exact hlt)
      have r0 := HR.out wr (HEX.out.block b hbl (by simp))
      have hn1 := prV_new wr #[.int .i64 0, .int .i64 0, .int .i64 0, .string ⟨#[]⟩, .int .i64 0, .int .i64 0, .int .i64 0, .int .i64 0, .int .i64 0, .slice none 0 0, .slice none 0 0, .string ⟨#[]⟩, .int .i64 0, .string ⟨#[]⟩, .int .i64 0, .int .i64 0, .string ⟨#[]⟩, .int .i64 0, .int .i64 0, .int .i64 0, .int .i64 0, .int .i64 0, .slice none 0 0, .slice none 0 0, .string ⟨#[]⟩, .int .i64 0, .string ⟨#[]⟩] x rfl
      go_upto_region 5 with (fail)
      obtain ⟨ws, hws⟩ : ∃ ws : World, ws = wr.alloc (.cells (prE x).toArray 37) := ⟨_, rfl⟩
      have HEs : Hid (Ex wr.heap.size none wr ws) := Lib.hid (by rw [hws]; exact Ex.new wr _)
      have hzs : ws.heap.size = wr.heap.size + 1 := by rw [hws]; simp
      have r1 : (rowLoad 37 ⟨wr.heap.size, 0, none⟩).run Tryz.prog ws = .ok (prV x) ws := prV_box (by rw [hws]; exact heap_alloc_new wr _)
      clear r0 hn1
      refine wp_world (fun W => W = ws) (by rw [hws]) (fun W hW => ?_)
      rw [hW]
      clear hW W hws
      obtain ⟨z, hz⟩ : ∃ z, z = x.2.1.1.author := ⟨_, rfl⟩
      have HZ : Hid (x.2.1.1.author = z) := Lib.hid hz.symm
      clear hz
      go_wp2_with (first
        | (go_at_call 23
           refine (against_any x ws).mono ?_
           rintro e w2 ⟨rfl, hex2⟩
           rw [HZ.out]
           have HE2 : Hid (Ex wr.heap.size none wr w2) := Lib.hid (HEs.out.trans hex2 (by omega) (by simp))
           clear hex2 r1)
        | (at_builtin
           refine wpList_appI (w0 := w2) rfl (.tmp 13) (.tmp 16) 22 (by rfl) Tryz.underlying22 HLI.out w1.heap.size ro rc xs w2.heap.size z (by rw [HXL.out]; rfl) (by rfl) (HO.out.keep HE2.out (Nat.le_refl _) (by simp)) (Ex.new w2 _) (by rw [cell_of_row _ _ _ _ _ _ (heap_alloc_new w2 _)]; rfl) (by rw [HXL.out]; omega) (by have := HE2.out.size; omega) ?_
           intro ro2 rc2 w3 hown3 hex3
           rw [HXL.out]
           have HO3 := Lib.hid hown3
           have HE3 : Hid (Ex w1.heap.size none w1 w3) := Lib.hid ((HEX.out.trans HE2.out hsz (by simp)).trans hex3 (Nat.le_refl _) (by simp))
           clear hown3 hex3)
        | fail)
      go_roundw
      case rel => exact ⟨k + 1, ro2, rc2, xs ++ [z], by omega, by go_num, by go_num, Lib.hid (by rw [List.take_add_one, HXk.out, Option.toList_some, List.map_append, ← HA.out]; exact congrArg (fun y => xs ++ [y]) HZ.out.symm), Lib.hid (by rw [List.length_append, HXL.out]; rfl), HO3.out, HE3.out⟩
      case measure => simp [intOf] <;> omega
    · obtain rfl : k = m := by omega
      have HX2 : Hid (xs = ps.map fun p => p.2.1.author) := Lib.hid (by rw [HA.out, HM.out, List.take_length])
      go_wp2_with (first
        | (go_at_call 46
           refine (compactOwnI_any ro rc k w1.heap.size xs wr HO.out HXL.out (by rw [HXL.out]; omega) hsz).mono ?_
           rintro e w2 ⟨rfl, hex2, hat⟩
           have H2 : Hid (IntsAt w2 ro (Lib.compact xs) ∧ Ex w1.heap.size none wr w2) := Lib.hid ⟨hat, hex2⟩
           clear hex2 hat)
        | fail)
      go_ret
      exact ⟨⟨ro, rc, ps, H1.out.1, by rw [← HX2.out]; rfl, by rw [← HX2.out]; exact H2.out.1⟩, H1.out.2.2.trans (HEX.out.trans H2.out.2 (Nat.le_refl _) (by simp)) hz1 (by simp)⟩
end Go.Proofs.YtaihmldiglgipaaGreat

namespace Go.Proofs.YtaihmldiglgipaaGreat
open Go.RowKit Go.Sort

/-- A statement with given data. -/
def Fact.stA (base : Nat) (s : St) : Fact := ⟨fun v w => ∃ y, v = stV y ∧ y.1 = s ∧ Lies (fun k => base ≤ k) w y, fun ⟨y, h1, h2, h3⟩ hx => ⟨y, h1, h2, h3.keep fun b _ hb => hx.block b hb (by simp)⟩⟩
theorem lies_bare {P Q : Nat → Prop} {w w' : World} {y : St × Sv × Sv} (h : Lies P w y) (h1 : y.1.list = []) (h2 : y.1.pins = []) : Lies Q w' y := by
  obtain ⟨k1, k2⟩ := h
  rw [h1] at k1
  rw [h2] at k2
  obtain ⟨a1, c1, e1, _⟩ := k1
  obtain ⟨a2, c2, e2, _⟩ := k2
  refine ⟨?_, ?_⟩
  · rw [h1]; exact ⟨a1, c1, e1, fun i hi => absurd hi (by simp)⟩
  · rw [h2]; exact ⟨a2, c2, e2, fun i hi => absurd hi (by simp)⟩
theorem awS_bare (ti : Nat) : LightS (awS ti) := ⟨Nat.zero_le _, Nat.zero_le _⟩
theorem awS_light : ∀ s ∈ [awS 0, awS 1], LightS s := fun s hs => by
  simp only [List.mem_cons, List.not_mem_nil, or_false] at hs
  rcases hs with rfl | rfl <;> exact awS_bare _
theorem awS_light3 : ∀ s ∈ [awS 1, awS 0, awS 1], LightS s := fun s hs => by
  simp only [List.mem_cons, List.not_mem_nil, or_false] at hs
  rcases hs with rfl | rfl | rfl <;> exact awS_bare _
attribute [local go_sem ↓] rowLoad_stv rowStore_stv rowBuild_stv rowLoad_prf
set_option maxHeartbeats 16000000 in
set_option maxRecDepth 100000 in
theorem awake36_any (w : World) : Calls Tryz.prog 6 #[] w fun e w' => e = .returned (.bool true) ∧ Ex w.heap.size none w w' := by
  go_enter Tryz.func6, Tryz.ntmps6
  go_upto_region 2 with (first
    | (go_at_call 18
       fail_if_success (have _x := HE1)
       refine (millV_any (P := fun _ => True) 2 4 0 (drD 11 0 0 0 [], ⟨none, 0, 0⟩, ⟨none, 0, 0⟩) w ⟨Sl.nil _ _, Sl.nil _ _⟩ ⟨Nat.zero_le _, Nat.zero_le _⟩ (Nat.zero_le _) (by decide)).mono ?_
       rintro e w1 ⟨⟨y, rfl, hy, hl⟩, hex⟩
       have HY1 : Hid (y.1 = awS 0 ∧ Lies (fun k => w.heap.size ≤ k) w1 y) := Lib.hid ⟨hy, hl⟩
       have HE1 : Hid (Ex w.heap.size none w w1) := Lib.hid (hex)
       clear hy hl hex)
    | (go_at_call 18
       refine (millV_any (P := fun _ => True) 2 4 1 (drD 11 0 0 0 [], ⟨none, 0, 0⟩, ⟨none, 0, 0⟩) w1 ⟨Sl.nil _ _, Sl.nil _ _⟩ ⟨Nat.zero_le _, Nat.zero_le _⟩ (Nat.zero_le _) (by decide)).mono ?_
       rintro e w2 ⟨⟨z, rfl, hy, hl⟩, hex⟩
       have HY2 : Hid (z.1 = awS 1 ∧ Lies (fun k => w1.heap.size ≤ k) w2 z) := Lib.hid ⟨hy, hl⟩
       have HE2 : Hid (Ex w.heap.size none w w2) := Lib.hid (HE1.out.thenW hex)
       clear hy hl hex
       have hst1 : (rowStore 35 ⟨w2.heap.size, 0, none⟩ (stV y)).run Tryz.prog ((w2.alloc (.cells #[.int .i64 0, .int .i64 0, .string ⟨#[]⟩, .int .i64 0, .int .i64 0, .int .i64 0, .int .i64 0, .int .i64 0, .slice none 0 0, .slice none 0 0, .string ⟨#[]⟩, .int .i64 0, .string ⟨#[]⟩] 35)).alloc (.cells #[.int .i64 0, .int .i64 0, .string ⟨#[]⟩, .int .i64 0, .int .i64 0, .int .i64 0, .int .i64 0, .int .i64 0, .slice none 0 0, .slice none 0 0, .string ⟨#[]⟩, .int .i64 0, .string ⟨#[]⟩] 35)) = .ok () (((w2.alloc (.cells #[.int .i64 0, .int .i64 0, .string ⟨#[]⟩, .int .i64 0, .int .i64 0, .int .i64 0, .int .i64 0, .int .i64 0, .slice none 0 0, .slice none 0 0, .string ⟨#[]⟩, .int .i64 0, .string ⟨#[]⟩] 35)).alloc (.cells #[.int .i64 0, .int .i64 0, .string ⟨#[]⟩, .int .i64 0, .int .i64 0, .int .i64 0, .int .i64 0, .int .i64 0, .slice none 0 0, .slice none 0 0, .string ⟨#[]⟩, .int .i64 0, .string ⟨#[]⟩] 35)).setRow w2.heap.size (stE y).toArray) := run_rowStore (P := Tryz.prog) _ w2.heap.size 35 35 _ (stV y).cells (heap_alloc2_old _ _ _) Tryz.sizeStv rfl (stV_one _)
       have hst2 : (rowStore 35 ⟨w2.heap.size + 1, 0, none⟩ (stV z)).run Tryz.prog (((w2.alloc (.cells #[.int .i64 0, .int .i64 0, .string ⟨#[]⟩, .int .i64 0, .int .i64 0, .int .i64 0, .int .i64 0, .int .i64 0, .slice none 0 0, .slice none 0 0, .string ⟨#[]⟩, .int .i64 0, .string ⟨#[]⟩] 35)).alloc (.cells #[.int .i64 0, .int .i64 0, .string ⟨#[]⟩, .int .i64 0, .int .i64 0, .int .i64 0, .int .i64 0, .int .i64 0, .slice none 0 0, .slice none 0 0, .string ⟨#[]⟩, .int .i64 0, .string ⟨#[]⟩] 35)).setRow w2.heap.size (stE y).toArray) = .ok () ((((w2.alloc (.cells #[.int .i64 0, .int .i64 0, .string ⟨#[]⟩, .int .i64 0, .int .i64 0, .int .i64 0, .int .i64 0, .int .i64 0, .slice none 0 0, .slice none 0 0, .string ⟨#[]⟩, .int .i64 0, .string ⟨#[]⟩] 35)).alloc (.cells #[.int .i64 0, .int .i64 0, .string ⟨#[]⟩, .int .i64 0, .int .i64 0, .int .i64 0, .int .i64 0, .int .i64 0, .slice none 0 0, .slice none 0 0, .string ⟨#[]⟩, .int .i64 0, .string ⟨#[]⟩] 35)).setRow w2.heap.size (stE y).toArray).setRow (w2.heap.size + 1) (stE z).toArray) := run_rowStore (P := Tryz.prog) _ (w2.heap.size + 1) 35 35 _ (stV z).cells ((setRow_other _ _ _ _ (by omega)).trans (heap_alloc2_new _ _ _)) Tryz.sizeStv rfl (stV_one _)
       obtain ⟨w3, hw3⟩ : ∃ w3 : World, w3 = (((w2.alloc (.cells #[.int .i64 0, .int .i64 0, .string ⟨#[]⟩, .int .i64 0, .int .i64 0, .int .i64 0, .int .i64 0, .int .i64 0, .slice none 0 0, .slice none 0 0, .string ⟨#[]⟩, .int .i64 0, .string ⟨#[]⟩] 35)).alloc (.cells #[.int .i64 0, .int .i64 0, .string ⟨#[]⟩, .int .i64 0, .int .i64 0, .int .i64 0, .int .i64 0, .int .i64 0, .slice none 0 0, .slice none 0 0, .string ⟨#[]⟩, .int .i64 0, .string ⟨#[]⟩] 35)).setRow w2.heap.size (stE y).toArray).setRow (w2.heap.size + 1) (stE z).toArray := ⟨_, rfl⟩
       have k1 : w3.heap[w2.heap.size]? = some (.cells (stE y).toArray 35 (0, 0)) := by rw [hw3]; exact (setRow_other _ _ _ _ (by omega)).trans (setRow_heap _ _ _ _ _ _ (heap_alloc2_old _ _ _))
       have k2 : w3.heap[w2.heap.size + 1]? = some (.cells (stE z).toArray 35 (0, 0)) := by rw [hw3]; exact setRow_heap _ _ _ _ _ _ ((setRow_other _ _ _ _ (by omega)).trans (heap_alloc2_new _ _ _))
       have HX3 : Hid (Ex w.heap.size none w w3) := Lib.hid (by rw [hw3]; exact (((HE2.out.alloc HE2.out.size _).alloc (by have := HE2.out.size; simp; omega) _).setRow _ _ (.inr HE2.out.size)).setRow _ _ (.inr (by have := HE2.out.size; omega)))
       have HB : Hid (∀ w', Ex w3.heap.size none w3 w' → w'.heap[w2.heap.size]? = some (.cells (stE y).toArray 35 (0, 0)) ∧ w'.heap[w2.heap.size + 1]? = some (.cells (stE z).toArray 35 (0, 0)) ∧ Lies (fun _ => True) w' y ∧ Lies (fun _ => True) w' z) := Lib.hid (fun w' h => ⟨h.at2 (Nat.le_refl _) k1, h.at2 (Nat.le_refl _) k2, lies_bare HY1.out.2 (by rw [HY1.out.1]; rfl) (by rw [HY1.out.1]; rfl), lies_bare HY2.out.2 (by rw [HY2.out.1]; rfl) (by rw [HY2.out.1]; rfl)⟩)
       rw [← hw3] at hst2
       clear hw3 k1 k2)
    | fail)
  clear hst1 hst2
  have rb1 := stV_box (HB.out w3 (Ex.refl _ _ _)).1
  have rb2 := stV_box (HB.out w3 (Ex.refl _ _ _)).2.1
  have hlit := stV_litN2 w3 y z
  obtain ⟨w4, hw4⟩ : ∃ w4 : World, w4 = w3.alloc (.cells (flatL stE [y, z]).toArray 35) := ⟨_, rfl⟩
  rw [← hw4] at hlit
  have HE4 : Hid (Ex w3.heap.size none w3 w4) := Lib.hid (by rw [hw4]; exact Ex.new _ _)
  have HS4 : Hid (Sl stRep (fun _ => True) w4 (.slice (some ⟨w3.heap.size, 0, none⟩) 2 2) [awS 0, awS 1]) := Lib.hid (by
    have h := lit_slN (P := fun _ => True) (w := w4) (g := w3.heap.size) (xs := [y, z]) trivial (by rw [hw4]; exact heap_alloc_new w3 _) (fun x hx => by
      have hk := HB.out w4 HE4.out
      rcases List.mem_cons.1 hx with rfl | hx
      · exact hk.2.2.1
      · obtain rfl := List.mem_singleton.1 hx
        exact hk.2.2.2)
    simp only [List.map_cons, List.map_nil, HY1.out.1, HY2.out.1] at h
    exact ⟨_, _, rfl, h⟩)
  clear hw4
  go_upto_region 3 with (first
    | (go_at_call 20
       refine (guiltyV_any (P := fun _ => True) _ [awS 0, awS 1] w4 HS4.out (by decide) awS_light).mono ?_
       rintro e w5 ⟨⟨ro, rc, ps, hfr, rfl, hio⟩, hex⟩
       obtain ⟨_, _, _, _, hcp⟩ := aw_find (by simp) (by simp) (by simp) hfr
       rw [hcp] at hio ⊢
       have HI5 : Hid (IntsAt w5 ro [2]) := Lib.hid hio
       have HE5 : Hid (Ex w3.heap.size none w3 w5) := Lib.hid (HE4.out.thenW hex)
       clear hfr hio hex hcp)
    | fail)
  clear rb1 rb2 hlit
  have rb1 := stV_box (HB.out w5 HE5.out).1
  have rb2 := stV_box (HB.out w5 HE5.out).2.1
  have hlit := stV_litN3 w5 z y z
  obtain ⟨w6, hw6⟩ : ∃ w6 : World, w6 = w5.alloc (.cells (flatL stE [z, y, z]).toArray 35) := ⟨_, rfl⟩
  rw [← hw6] at hlit
  have HE56 : Hid (Ex w5.heap.size none w5 w6) := Lib.hid (by rw [hw6]; exact Ex.new _ _)
  have HE6 : Hid (Ex w3.heap.size none w3 w6) := Lib.hid (HE5.out.thenW HE56.out)
  have HS6 : Hid (Sl stRep (fun _ => True) w6 (.slice (some ⟨w5.heap.size, 0, none⟩) 3 3) [awS 1, awS 0, awS 1]) := Lib.hid (by
    have h := lit_slN (P := fun _ => True) (w := w6) (g := w5.heap.size) (xs := [z, y, z]) trivial (by rw [hw6]; exact heap_alloc_new w5 _) (fun x hx => by
      have hk := HB.out w6 HE6.out
      simp only [List.mem_cons, List.not_mem_nil, or_false] at hx
      rcases hx with rfl | rfl | rfl
      · exact hk.2.2.2
      · exact hk.2.2.1
      · exact hk.2.2.2)
    simp only [List.map_cons, List.map_nil, HY1.out.1, HY2.out.1] at h
    exact ⟨_, _, rfl, h⟩)
  clear hw6
  go_upto_region 4 with (first
    | (go_at_call 8
       refine (findV_any (P := fun _ => True) _ [awS 1, awS 0, awS 1] w6 HS6.out (by decide) awS_light3).mono ?_
       rintro e w7 ⟨⟨po, pc, ps, rfl, hfr, hsl⟩, hex⟩
       obtain ⟨px, py, rfl, hpa, _⟩ := aw_find (by simp) (by simp) (by simp) hfr
       have HFR : Hid (PairOK (1, px, py) ∧ LightS px ∧ LightS py) := Lib.hid (by
         obtain ⟨h1, h2, h3⟩ := hfr.ok _ (List.mem_singleton.2 rfl)
         exact ⟨h1, awS_light3 _ h2, awS_light3 _ h3⟩)
       have HPA : Hid (px.author = 2) := Lib.hid hpa
       have HS7 : Hid (SlAt prRep (fun _ => True) w7 po [(1, px, py)]) := Lib.hid hsl
       have HE67 : Hid (Ex w6.heap.size none w6 w7) := Lib.hid hex
       have HE7 : Hid (Ex w3.heap.size none w3 w7) := Lib.hid (HE6.out.thenW hex)
       clear hfr hsl hex hpa)
    | fail)
  clear rb1 rb2 hlit
  have hz57 : w5.heap.size ≤ w7.heap.size := by have := HE56.out.size; have := HE67.out.size; omega
  have HI7 : Hid (Ints w7 (.slice ro 1 rc) [2]) := Lib.hid ((show Ints w5 (.slice ro 1 rc) [2] from ⟨_, _, rfl, HI5.out⟩).keep (HE56.out.thenW HE67.out) (Nat.le_refl _))
  obtain ⟨pb, off, x, rfl, _, hpb, hxd, hxl, hxr⟩ := prv_get HS7.out 0 (Nat.zero_lt_one)
  have HXD : Hid (x.d = (1, px, py)) := Lib.hid (by have h := hxd.out; simp only [List.getElem?_cons_zero, Option.some.injEq] at h; exact h.symm)
  have HXL := Lib.hid hxl
  have HXR : Hid (∀ w8, Ex w7.heap.size none w7 w8 → (rowLoad 37 ⟨pb, off, none⟩).run Tryz.prog w8 = .ok (prV x) w8 ∧ LiesP (fun _ => True) w8 x) := Lib.hid (fun w8 h => ⟨by have k := hxr.out w8 (h.block _ hpb (by simp)); simpa only [Nat.zero_mul, Nat.add_zero] using k, HXL.out.keep fun b _ hb => h.block b hb (by simp)⟩)
  clear hxd hxl hxr
  go_wp2_with (first
    | (go_at_call 22
       refine (sameInts_any (.slice ro 1 rc) (.slice (some ⟨w7.heap.size, 0, none⟩) 1 1) [2] [2] _ (HI7.out.keep (Ex.new w7 _) (Nat.le_refl _)) ⟨_, 1, rfl, IntsAt.lit w7 [2]⟩ (by decide)).mono ?_
       rintro e w8 ⟨rfl, hex⟩
       rw [decide_eq_true rfl]
       have HE8 : Hid (Ex w7.heap.size none w7 w8) := Lib.hid ((Ex.new w7 _).thenW hex)
       obtain ⟨rp, hlp⟩ := HXR.out w8 HE8.out
       clear hex)
    | (go_at_call 10
       have hxk : x.1 = ((1 : Nat) : Int) ∧ x.2.1.1 = px ∧ x.2.2.1 = py := by
         have h := HXD.out
         unfold PrX.d at h
         simp only [Prod.mk.injEq] at h
         exact ⟨h.1, h.2.1, h.2.2⟩
       refine (checkX_any (P := fun _ => True) x 1 w8 hlp (by rw [hxk.2.1]; exact HFR.out.2.1) (by rw [hxk.2.2]; exact HFR.out.2.2) (by rw [hxk.2.1]; exact HFR.out.1.1) (by rw [hxk.2.2]; exact HFR.out.1.2.1) (by rw [hxk.2.1, hxk.2.2]; exact HFR.out.1.2.2.2.2.1) hxk.1 (.inl rfl)).mono ?_
       rw [HXD.out, HFR.out.1.chk]
       rintro e w9 ⟨rfl, hex⟩
       have HE9 : Hid (Ex w7.heap.size none w7 w9) := Lib.hid (HE8.out.thenW hex)
       clear rp hlp
       obtain ⟨rp, hlp⟩ := HXR.out w9 HE9.out
       clear hex hxk)
    | (go_at_call 23
       refine (against_any x w9).mono ?_
       rw [show x.2.1.1.author = 2 by have h := HXD.out; unfold PrX.d at h; simp only [Prod.mk.injEq] at h; rw [h.2.1]; exact HPA.out]
       rintro e w10 ⟨rfl, hex⟩
       have HE10 : Hid (Ex w7.heap.size none w7 w10) := Lib.hid (HE9.out.thenW hex)
       clear hex rp hlp)
    | fail)
  go_ret
  exact ⟨rfl, HX3.out.thenW (HE7.out.thenW HE10.out)⟩
end Go.Proofs.YtaihmldiglgipaaGreat

namespace Go.Proofs.YtaihmldiglgipaaGreat
open Go.RowKit Go.Sort

theorem rowStore_co (a : Addr) (v : Value) : storeVar 57 a v = rowStore 57 a v := rfl
theorem rowLoad_co (a : Addr) : loadVar 57 a = rowLoad 57 a := rfl
theorem Tryz.sizeCo : (Tryz.prog.info? 57).map (·.size) = some 2 := by kernel_rfl
theorem one_coE (x : St × Sv × Sv) : (coE x).toArray.all (·.oneCell') = true := by simp [coE, Value.oneCell', Sv.v]
theorem coV_box {w : World} {g : Nat} {x : St × Sv × Sv} {t : TypeId} {fr : Nat × Nat} (h : w.heap[g]? = some (.cells (coE x).toArray t fr)) : (rowLoad 57 ⟨g, 0, none⟩).run Tryz.prog w = .ok (coV x) w :=
  run_rowLoad (P := Tryz.prog) w g t 57 (coE x).toArray fr _ h Tryz.underlying57 rfl Tryz.sizeCo
theorem coV_set {w : World} {g : Nat} {old : Array Value} (x : St × Sv × Sv) (h : w.heap[g]? = some (.cells old 57 (0, 0))) (ho : old.size = 2) : (rowStore 57 ⟨g, 0, none⟩ (coV x)).run Tryz.prog w = .ok () (w.setRow g (coE x).toArray) :=
  run_rowStore (P := Tryz.prog) w g 57 57 old (coE x).toArray h Tryz.sizeCo (by rw [ho]; rfl) (one_coE x)
theorem coV_new (w : World) (old : Array Value) (x : St × Sv × Sv) (ho : old.size = 2) : (rowStore 57 ⟨w.heap.size, 0, none⟩ (coV x)).run Tryz.prog (w.alloc (.cells old 57)) = .ok () (w.alloc (.cells (coE x).toArray 57)) := by
  have h := coV_set (w := w.alloc (.cells old 57)) (g := w.heap.size) (old := old) x (heap_alloc_new w _) ho
  rw [alloc_setRow] at h
  exact h
/-- A carrier of a content. -/
def coS (l : List Int) (p : List PinD) : St := ⟨0, 0, ⟨#[]⟩, 0, 0, 0, 0, 0, l, p, ⟨#[]⟩, 0, ⟨#[]⟩⟩
theorem ints_lies {w : World} {b : Nat} {l : List Int} (h : w.heap[b]? = some (.cells (l.map (Value.int .i64)).toArray 3 (0, 0))) : Sl intRep (fun c => b ≤ c) w (.slice (some ⟨b, 0, none⟩) l.length l.length) l := by
  refine ⟨_, _, rfl, fun i hi => ⟨b, 0, [.int .i64 l[i]], rfl, Nat.le_refl _, ?_, rfl⟩⟩
  intro j v hv
  match j, hv with
  | 0, hv =>
    have hv' : Value.int .i64 l[i] = v := by simpa using hv
    show w.cell? ⟨b, 0 + i * 1 + 0, none⟩ = some v
    rw [cell_of_row _ _ _ _ _ _ h, ← hv']
    simp [hi]
  | j + 1, hv => simp at hv
theorem pin_lies {w : World} {b : Nat} {p : PinD} (h : w.heap[b]? = some (.cells (pinE p).toArray 85 (0, 0))) : Sl pinRep (fun c => b ≤ c) w (.slice (some ⟨b, 0, none⟩) 1 1) [p] := by
  refine ⟨_, _, rfl, fun i hi => ?_⟩
  obtain rfl : i = 0 := by simpa using hi
  refine ⟨b, 0, pinE p, rfl, Nat.le_refl _, ?_, rfl⟩
  intro j v hv
  show w.cell? ⟨b, 0 + 0 * 3 + j, none⟩ = some v
  rw [cell_of_row _ _ _ _ _ _ h, ← hv]
  simp
/-- What mill.Content answers. -/
def ContE (k : Int) (b : Nat) (e : Ending) (w' : World) : Prop := ∃ y : St × Sv × Sv, e = .returned (coV y) ∧ ContOK k y.1.list ∧ y.1.pins.length ≤ 1 ∧ (∀ p ∈ y.1.pins, p.2.2.size ≤ 1000) ∧ Lies (fun c => b ≤ c) w' y
attribute [local go_sem ↓] rowLoad_ca rowStore_ca rowLoad_co rowStore_co
set_option maxHeartbeats 16000000 in
set_option maxRecDepth 100000 in
theorem contentM_w (N p : Nat) (c : CaD) (w : World) (hd : DiceOK N w p) (hN : N ≤ w.heap.size) :
    Calls Tryz.prog 16 #[.pointer (some ⟨p, 0, none⟩), caV c] w fun e w' => ContE c.2.1 w.heap.size e w' ∧ DiceOK N w' p ∧ Ex w.heap.size (some p) w w' := by
  have hpN := hd.lt
  obtain ⟨w1, hw1⟩ : ∃ w1 : World, w1 = (w.alloc (.cells (caE c).toArray 50)).alloc (.cells #[.slice none 0 0, .slice none 0 0] 57) := ⟨_, rfl⟩
  have HE1 : Hid (Ex w.heap.size none w w1) := Lib.hid (by rw [hw1]; exact (Ex.new w _).alloc (by simp) _)
  have HD1 : Hid (DiceOK N w1 p) := Lib.hid (hd.keep HE1.out hN)
  have hz1 : w1.heap.size = w.heap.size + 1 + 1 := by rw [hw1]; simp
  have HR1 : Hid (∀ w', Ex w1.heap.size (some p) w1 w' → w'.heap[w.heap.size + 1]? = some (.cells #[.slice none 0 0, .slice none 0 0] 57 (0, 0))) := Lib.hid (fun w' h => (h.block _ (by omega) (by simp; omega)).trans (by rw [hw1]; exact heap_alloc2_new _ _ _))
  have c1 : w1.cell? ⟨w.heap.size, 1, none⟩ = some (.int .i64 c.2.1) := by
    rw [cell_of_row _ _ _ _ _ _ (show w1.heap[w.heap.size]? = some (.cells (caE c).toArray 50 (0, 0)) by rw [hw1]; exact heap_alloc2_old _ _ _)]; rfl
  clear hd
  have n0 := caV_new w #[.int .i64 0, .int .i64 0, .int .i64 0, .int .i64 0] c rfl
  go_enter Tryz.func16, Tryz.ntmps16
  go_upto_region 1 with (fail)
  refine wp_world (fun W => W = w1) (by rw [hw1]; rfl) (fun W hW => ?_)
  rw [hW]
  clear hW W hw1 n0
  by_cases hk : c.2.1 = 1
  · have kk : (c.2.1 != 1) = false := by simpa using hk
    have HK := Lib.hid hk
    clear hk
    go_upto_region 4 with (first
      | (go_at_call 13
         refine (next_w N p 127 w1 HD1.out (by omega) (by omega)).mono ?_
         rintro e w2 ⟨k, rfl, hk, hd2, hex2⟩
         have H2 : Hid (DiceOK N w2 p ∧ Ex w1.heap.size (some p) w1 w2) := Lib.hid ⟨hd2, hex2⟩
         have hz2 : w1.heap.size ≤ w2.heap.size := hex2.size
         have hwp : IntKind.i64.wrap (1 + (k : Int)) = 1 + (k : Int) := by rw [IntKind.wrap_i64]; omega
         clear hd2 hex2 c1)
      | (go_at_call 38
         refine (of_w N p (.slice (some ⟨w2.heap.size, 0, none⟩) 3 3) [0, 0, 1] _ (H2.out.1.keep (Ex.new w2 _) (by omega)) (IntsO.lit [0, 0, 1] rfl rfl (by omega)) (by decide) (by decide)).mono ?_
         rintro e w3 ⟨y, rfl, hy, hd3, hex3⟩
         have H3 : Hid (DiceOK N w3 p ∧ Ex w1.heap.size (some p) w1 w3) := Lib.hid ⟨hd3, (H2.out.2.alloc hz2 _).trans hex3 (by simp; omega) (fun q h _ => h)⟩
         have hz3 : w1.heap.size ≤ w3.heap.size := H3.out.2.size
         have hy2 : y = 0 ∨ y = 1 := by simpa using hy
         have hn3 : (rowStore 57 ⟨w3.heap.size + 1, 0, none⟩ (.agg #[.slice (some ⟨w3.heap.size, 0, none⟩) 2 2, .slice none 0 0])).run Tryz.prog ((w3.alloc (.cells #[.int .i64 (1 + (k : Int)), .int .i64 y] 3)).alloc (.cells #[.slice none 0 0, .slice none 0 0] 57)) = .ok () ((w3.alloc (.cells #[.int .i64 (1 + (k : Int)), .int .i64 y] 3)).alloc (.cells (coE (coS [1 + (k : Int), y] [], ⟨some ⟨w3.heap.size, 0, none⟩, 2, 2⟩, ⟨none, 0, 0⟩)).toArray 57)) := by
           have h := coV_new (w3.alloc (.cells #[.int .i64 (1 + (k : Int)), .int .i64 y] 3)) #[.slice none 0 0, .slice none 0 0] (coS [1 + (k : Int), y] [], ⟨some ⟨w3.heap.size, 0, none⟩, 2, 2⟩, ⟨none, 0, 0⟩) rfl
           simp only [World.size_alloc] at h
           exact h
         clear hd3 hex3 hy)
      | fail)
    obtain ⟨w4, hw4⟩ : ∃ w4 : World, w4 = (w3.alloc (.cells #[.int .i64 (1 + (k : Int)), .int .i64 y] 3)).alloc (.cells (coE (coS [1 + (k : Int), y] [], ⟨some ⟨w3.heap.size, 0, none⟩, 2, 2⟩, ⟨none, 0, 0⟩)).toArray 57) := ⟨_, rfl⟩
    have HE4 : Hid (Ex w1.heap.size (some p) w1 w4) := Lib.hid (by rw [hw4]; exact (H3.out.2.alloc hz3 _).alloc (by simp; omega) _)
    have HD4 : Hid (DiceOK N w4 p) := Lib.hid (by rw [hw4]; exact H3.out.1.keep ((Ex.new w3 _).alloc (by simp) _) (by omega))
    have HA4 : Hid (w4.heap[w3.heap.size]? = some (.cells #[.int .i64 (1 + (k : Int)), .int .i64 y] 3 (0, 0)) ∧ w4.heap[w3.heap.size + 1]? = some (.cells (coE (coS [1 + (k : Int), y] [], ⟨some ⟨w3.heap.size, 0, none⟩, 2, 2⟩, ⟨none, 0, 0⟩)).toArray 57 (0, 0))) := Lib.hid (by rw [hw4]; exact ⟨heap_alloc2_old _ _ _, heap_alloc2_new _ _ _⟩)
    have hz4 : w4.heap.size = w3.heap.size + 1 + 1 := by rw [hw4]; simp
    refine wp_world (fun W => W = w4) (by rw [hw4]) (fun W hW => ?_)
    rw [hW]
    clear hW W hw4 hn3
    have HOK : Hid (ContOK c.2.1 [1 + (k : Int), y]) := Lib.hid (.inl ⟨HK.out, _, _, rfl, by omega, by omega, by omega, by omega⟩)
    go_upto_if 22 with (first
      | (go_at_call 14
         refine (one_w N p 4 w4 HD4.out (by omega) (by omega)).mono ?_
         rintro e w5 ⟨b, rfl, hd, hex⟩
         have H5 : Hid (DiceOK N w5 p ∧ Ex w4.heap.size (some p) w4 w5) := Lib.hid ⟨hd, hex⟩
         have hz5 : w4.heap.size ≤ w5.heap.size := hex.size
         clear hd hex)
      | fail)
    have HE5 : Hid (Ex w1.heap.size (some p) w1 w5) := Lib.hid (HE4.out.trans H5.out.2 (by omega) (fun q h _ => h))
    have HA5 : Hid (w5.heap[w3.heap.size]? = some (.cells #[.int .i64 (1 + (k : Int)), .int .i64 y] 3 (0, 0)) ∧ w5.heap[w3.heap.size + 1]? = some (.cells (coE (coS [1 + (k : Int), y] [], ⟨some ⟨w3.heap.size, 0, none⟩, 2, 2⟩, ⟨none, 0, 0⟩)).toArray 57 (0, 0))) := Lib.hid ⟨(H5.out.2.block _ (by omega) (by simp; omega)).trans HA4.out.1, (H5.out.2.block _ (by omega) (by simp; omega)).trans HA4.out.2⟩
    cases b with
    | false =>
      have r5 : (rowLoad 57 ⟨w3.heap.size + 1, 0, none⟩).run Tryz.prog w5 = .ok (coV (coS [1 + (k : Int), y] [], ⟨some ⟨w3.heap.size, 0, none⟩, 2, 2⟩, ⟨none, 0, 0⟩)) w5 := coV_box HA5.out.2
      have st5 := coV_set (coS [1 + (k : Int), y] [], ⟨some ⟨w3.heap.size, 0, none⟩, 2, 2⟩, ⟨none, 0, 0⟩) (HR1.out w5 HE5.out) rfl
      go_wp2
      refine bodyPost_ret (v := coV (coS [1 + (k : Int), y] [], ⟨some ⟨w3.heap.size, 0, none⟩, 2, 2⟩, ⟨none, 0, 0⟩)) (results_cell_row rfl _ _ (w.heap.size + 1) 57 (coE (coS [1 + (k : Int), y] [], ⟨some ⟨w3.heap.size, 0, none⟩, 2, 2⟩, ⟨none, 0, 0⟩)).toArray (0, 0) _ (by rfl) (setRow_heap _ _ _ _ _ _ (HR1.out w5 HE5.out)) Tryz.underlying57 rfl Tryz.sizeCo) rfl ?_
      exact ⟨⟨_, rfl, HOK.out, Nat.zero_le _, (fun q hq => by cases hq), ⟨((ints_lies (l := [1 + (k : Int), y]) HA5.out.1).keep (by decide) fun b hb _ => setRow_other _ _ _ _ (by omega)).mono (by decide) fun b hb _ => by omega, Sl.nil _ _⟩⟩, DiceOK.keep H5.out.1 ((Ex.refl N none w5).setRow _ _ (.inr (by omega))) (Nat.le_refl _), ((HE1.out.weaken (some p)).trans HE5.out (by omega) (fun q h _ => h)).setRow _ _ (.inr (by omega))⟩
    | true =>
      go_upto_region 6 with (first
        | (go_at_call 13
           fail_if_success (have _x := H6)
           refine (next_w N p 4 w5 H5.out.1 (by omega) (by omega)).mono ?_
           rintro e w6 ⟨a, rfl, ha, hd6, hex6⟩
           have H6 : Hid (DiceOK N w6 p ∧ Ex w1.heap.size (some p) w1 w6) := Lib.hid ⟨hd6, HE5.out.trans hex6 (by omega) (fun q h _ => h)⟩
           have HX6 : Hid (Ex w5.heap.size (some p) w5 w6) := Lib.hid hex6
           have hz6 : w5.heap.size ≤ w6.heap.size := hex6.size
           clear hd6 hex6)
        | (go_at_call 13
           refine (next_w N p 3 w6 H6.out.1 (by omega) (by omega)).mono ?_
           rintro e w7 ⟨h, rfl, hh, hd7, hex7⟩
           have H7 : Hid (DiceOK N w7 p ∧ Ex w1.heap.size (some p) w1 w7) := Lib.hid ⟨hd7, H6.out.2.trans hex7 (by omega) (fun q h _ => h)⟩
           have HX7 : Hid (Ex w5.heap.size (some p) w5 w7) := Lib.hid (HX6.out.trans hex7 (by omega) (fun q h _ => h))
           have hz7 : w6.heap.size ≤ w7.heap.size := hex7.size
           have hwp2 : IntKind.i64.wrap (1 + (h : Int)) = 1 + (h : Int) := by rw [IntKind.wrap_i64]; omega
           clear hd7 hex7)
        | (go_at_call 43
           refine (digestD_w N p w7 H7.out.1 (by omega)).mono ?_
           rintro e w8 ⟨ds, rfl, hds, hd8, hex8⟩
           have H8 : Hid (DiceOK N w8 p ∧ Ex w1.heap.size (some p) w1 w8) := Lib.hid ⟨hd8, H7.out.2.trans hex8 (by omega) (fun q h _ => h)⟩
           have HX8 : Hid (Ex w5.heap.size (some p) w5 w8) := Lib.hid (HX7.out.trans hex8 (by omega) (fun q h _ => h))
           have hz8 : w7.heap.size ≤ w8.heap.size := hex8.size
           have hb8 : (w8.alloc (.cells #[.int .i64 (a : Int), .int .i64 (1 + (h : Int)), .string ds] 85)).heap[w3.heap.size + 1]? = some (.cells #[.slice (some ⟨w3.heap.size, 0, none⟩) 2 2, .slice none 0 0] 57 (0, 0)) := (at_oldX _ _ _ (by omega)).trans ((HX8.out.block _ (by omega) (by simp; omega)).trans HA5.out.2)
           have q1 : (w8.alloc (.cells #[.int .i64 (a : Int), .int .i64 (1 + (h : Int)), .string ds] 85)).cell? ⟨w3.heap.size + 1, 1, none⟩ = some (.slice none 0 0) := by rw [cell_of_row _ _ _ _ _ _ hb8]; rfl
           have f1 : (w8.alloc (.cells #[.int .i64 (a : Int), .int .i64 (1 + (h : Int)), .string ds] 85)).frozen? ⟨w3.heap.size + 1, 1, none⟩ = false := row_frozen_g hb8
           have HB8 := Lib.hid hb8
           clear hd8 hex8 hb8)
        | fail)
      obtain ⟨w9, hw9⟩ : ∃ w9 : World, w9 = (w8.alloc (.cells #[.int .i64 (a : Int), .int .i64 (1 + (h : Int)), .string ds] 85)).setCell ⟨w3.heap.size + 1, 1, none⟩ (.slice (some ⟨w8.heap.size, 0, none⟩) 1 1) := ⟨_, rfl⟩
      have HB9 : Hid (w9.heap[w3.heap.size + 1]? = some (.cells (coE (coS [1 + (k : Int), y] [((a : Int), 1 + (h : Int), ds)], ⟨some ⟨w3.heap.size, 0, none⟩, 2, 2⟩, ⟨some ⟨w8.heap.size, 0, none⟩, 1, 1⟩)).toArray 57 (0, 0)) ∧ w9.heap[w3.heap.size]? = some (.cells #[.int .i64 (1 + (k : Int)), .int .i64 y] 3 (0, 0)) ∧ w9.heap[w8.heap.size]? = some (.cells #[.int .i64 (a : Int), .int .i64 (1 + (h : Int)), .string ds] 85 (0, 0))) := Lib.hid (by
        rw [hw9]
        refine ⟨by rw [heap_setCell_same _ _ _ _ _ _ HB8.out]; rfl, set_far (by omega) ((at_oldX _ _ _ (by omega)).trans ((HX8.out.block _ (by omega) (by simp; omega)).trans HA5.out.1)), set_far (by omega) (heap_alloc_new _ _)⟩)
      have HX9 : Hid (Ex w1.heap.size none w8 w9) := Lib.hid (by rw [hw9]; exact ((Ex.refl _ _ w8).alloc (by omega) _).setCell _ _ _ (.inr (by omega)))
      have HE9 : Hid (Ex w1.heap.size (some p) w1 w9) := Lib.hid (H8.out.2.trans HX9.out (Nat.le_refl _) (by simp))
      have HD9 : Hid (DiceOK N w9 p) := Lib.hid (H8.out.1.keep HX9.out (by omega))
      have r9 : (rowLoad 57 ⟨w3.heap.size + 1, 0, none⟩).run Tryz.prog w9 = .ok (coV (coS [1 + (k : Int), y] [((a : Int), 1 + (h : Int), ds)], ⟨some ⟨w3.heap.size, 0, none⟩, 2, 2⟩, ⟨some ⟨w8.heap.size, 0, none⟩, 1, 1⟩)) w9 := coV_box HB9.out.1
      have st9 := coV_set (coS [1 + (k : Int), y] [((a : Int), 1 + (h : Int), ds)], ⟨some ⟨w3.heap.size, 0, none⟩, 2, 2⟩, ⟨some ⟨w8.heap.size, 0, none⟩, 1, 1⟩) (HR1.out w9 HE9.out) rfl
      have hp9 : w1.heap.size ≤ w3.heap.size ∧ w1.heap.size ≤ w8.heap.size := ⟨hz3, by omega⟩
      refine wp_world (fun W => W = w9) (by rw [hw9]) (fun W hW => ?_)
      rw [hW]
      clear hW W hw9 q1 f1
      go_wp2
      refine bodyPost_ret (v := coV (coS [1 + (k : Int), y] [((a : Int), 1 + (h : Int), ds)], ⟨some ⟨w3.heap.size, 0, none⟩, 2, 2⟩, ⟨some ⟨w8.heap.size, 0, none⟩, 1, 1⟩)) (results_cell_row rfl _ _ (w.heap.size + 1) 57 (coE (coS [1 + (k : Int), y] [((a : Int), 1 + (h : Int), ds)], ⟨some ⟨w3.heap.size, 0, none⟩, 2, 2⟩, ⟨some ⟨w8.heap.size, 0, none⟩, 1, 1⟩)).toArray (0, 0) _ (by rfl) (setRow_heap _ _ _ _ _ _ (HR1.out w9 HE9.out)) Tryz.underlying57 rfl Tryz.sizeCo) rfl ?_
      exact ⟨⟨_, rfl, HOK.out, Nat.le_refl 1, (fun q hq => by
        rw [List.mem_singleton.1 hq]
        show ds.size ≤ 1000
        omega), ⟨((ints_lies (l := [1 + (k : Int), y]) HB9.out.2.1).keep (by decide) fun b hb _ => setRow_other _ _ _ _ (by omega)).mono (by decide) fun b hb _ => by omega, ((pin_lies (p := ((a : Int), 1 + (h : Int), ds)) HB9.out.2.2).keep (by decide) fun b hb _ => setRow_other _ _ _ _ (by omega)).mono (by decide) fun b hb _ => by omega⟩⟩, DiceOK.keep HD9.out ((Ex.refl N none w9).setRow _ _ (.inr (by omega))) (Nat.le_refl _), ((HE1.out.weaken (some p)).trans HE9.out (by omega) (fun q h _ => h)).setRow _ _ (.inr (by omega))⟩
  · have kk : (c.2.1 != 1) = true := by simpa using hk
    have HK := Lib.hid hk
    clear hk
    go_wp2_with (first
      | (go_at_call 13
         refine (next_w N p 2 w1 HD1.out (by omega) (by omega)).mono ?_
         rintro e w2 ⟨k, rfl, hk, hd2, hex2⟩
         have H2 : Hid (DiceOK N w2 p ∧ Ex w1.heap.size (some p) w1 w2) := Lib.hid ⟨hd2, hex2⟩
         have hz2 : w1.heap.size ≤ w2.heap.size := hex2.size
         have HB2 : Hid ((w2.alloc (.cells #[.int .i64 (k : Int)] 3)).heap[w2.heap.size]? = some (.cells #[.int .i64 (k : Int)] 3 (0, 0))) := Lib.hid (heap_alloc_new _ _)
         have HE3 : Hid (Ex w1.heap.size (some p) w1 (w2.alloc (.cells #[.int .i64 (k : Int)] 3))) := Lib.hid (H2.out.2.alloc hz2 _)
         have HD3 : Hid (DiceOK N (w2.alloc (.cells #[.int .i64 (k : Int)] 3)) p) := Lib.hid (H2.out.1.keep (Ex.new w2 _) (by omega))
         have hst : (rowStore 57 ⟨w.heap.size + 1, 0, none⟩ (.agg #[.slice (some ⟨w2.heap.size, 0, none⟩) 1 1, .slice none 0 0])).run Tryz.prog (w2.alloc (.cells #[.int .i64 (k : Int)] 3)) = .ok () ((w2.alloc (.cells #[.int .i64 (k : Int)] 3)).setRow (w.heap.size + 1) (coE (coS [(k : Int)] [], ⟨some ⟨w2.heap.size, 0, none⟩, 1, 1⟩, ⟨none, 0, 0⟩)).toArray) := coV_set (coS [(k : Int)] [], ⟨some ⟨w2.heap.size, 0, none⟩, 1, 1⟩, ⟨none, 0, 0⟩) (HR1.out _ HE3.out) rfl
         clear hd2 hex2 c1)
      | fail)
    refine bodyPost_ret (v := coV (coS [(k : Int)] [], ⟨some ⟨w2.heap.size, 0, none⟩, 1, 1⟩, ⟨none, 0, 0⟩)) (results_cell_row rfl _ _ (w.heap.size + 1) 57 (coE (coS [(k : Int)] [], ⟨some ⟨w2.heap.size, 0, none⟩, 1, 1⟩, ⟨none, 0, 0⟩)).toArray (0, 0) _ (by rfl) (setRow_heap _ _ _ _ _ _ (HR1.out _ HE3.out)) Tryz.underlying57 rfl Tryz.sizeCo) rfl ?_
    exact ⟨⟨_, rfl, .inr ⟨HK.out, _, rfl, by omega⟩, Nat.zero_le _, (fun q hq => by cases hq), ⟨((ints_lies (l := [(k : Int)]) HB2.out).keep (by decide) fun b hb _ => setRow_other _ _ _ _ (by omega)).mono (by decide) fun b hb _ => by omega, Sl.nil _ _⟩⟩, DiceOK.keep HD3.out ((Ex.refl N none _).setRow _ _ (.inr (by omega))) (Nat.le_refl _), ((HE1.out.weaken (some p)).trans HE3.out (by omega) (fun q h _ => h)).setRow _ _ (.inr (by omega))⟩
end Go.Proofs.YtaihmldiglgipaaGreat

namespace Go.Proofs.YtaihmldiglgipaaGreat
open Go.RowKit Go.Sort
attribute [local go_sem ↓] rowLoad_ca rowStore_ca rowLoad_co rowStore_co rowLoad_dr rowStore_dr rowLoad_stv rowStore_stv

/-- A statement by value, with short lists, in memory of its own. -/
def StE (b : Nat) (e : Ending) (w' : World) : Prop := ∃ y : St × Sv × Sv, e = .returned (stV y) ∧ (y.1.list.length ≤ 100 ∧ y.1.pins.length ≤ 100) ∧ Lies (fun c => b ≤ c) w' y
theorem millE_stE {a n t : Int} {d : St} {b : Nat} {e : Ending} {w' : World} (h : MillE (millS a n t d) b e w') (h1 : d.list.length ≤ 100 ∧ d.pins.length ≤ 100) : StE b e w' := by
  obtain ⟨y, he, hy, hl⟩ := h
  refine ⟨y, he, ?_, hl⟩
  rw [hy]
  exact h1
set_option maxHeartbeats 16000000 in
set_option maxRecDepth 100000 in
theorem voteM_any {P : Nat → Prop} (a n : Int) (c : CaD) (x : St × Sv × Sv) (w : World) (hv : validC c.1 c.2.1 c.2.2.1 c.2.2.2 = true) (hx : Lies P w x) (hc : ContOK c.2.1 x.1.list) (hp : x.1.pins.length ≤ 1) (hg : ∀ p ∈ x.1.pins, p.2.2.size ≤ 1000) (hn : 0 ≤ n) :
    Calls Tryz.prog 28 #[.int .i64 a, .int .i64 n, caV c, coV x] w fun e w' => StE w.heap.size e w' ∧ Ex w.heap.size none w w' := by
  have HV := Lib.hid hv
  have HC : Hid (ContOK c.2.1 x.1.list ∧ x.1.pins.length ≤ 1000) := Lib.hid ⟨hc, by omega⟩
  have HL2 : Hid (x.1.list.length ≤ 2) := Lib.hid (by
    rcases hc with ⟨_, y0, y1, hl, _⟩ | ⟨_, y0, hl, _⟩
    · rw [hl]; simp
    · rw [hl]; simp)
  have HPN : Hid (x.1.pins.length ≤ 1 ∧ (pinsL x.1.pins).length ≤ 1200000) := Lib.hid ⟨hp, digs_of (by omega) hg⟩
  obtain ⟨w1, hw1⟩ : ∃ w1 : World, w1 = ((w.alloc (.cells (caE c).toArray 50)).alloc (.cells (coE x).toArray 57)).alloc (.cells #[.int .i64 0, .int .i64 0, .string ⟨#[]⟩, .int .i64 0, .int .i64 0, .int .i64 0, .int .i64 0, .int .i64 0, .slice none 0 0, .slice none 0 0, .string ⟨#[]⟩, .int .i64 0, .string ⟨#[]⟩] 35) := ⟨_, rfl⟩
  have HE1 : Hid (Ex w.heap.size none w w1) := Lib.hid (by rw [hw1]; exact ((Ex.new w _).alloc (by simp) _).alloc (by simp; omega) _)
  have hz1 : w1.heap.size = w.heap.size + 1 + 1 + 1 := by rw [hw1]; simp
  have HA1 : Hid (w1.heap[w.heap.size]? = some (.cells (caE c).toArray 50 (0, 0)) ∧ w1.heap[w.heap.size + 1]? = some (.cells (coE x).toArray 57 (0, 0)) ∧ w1.heap[w.heap.size + 1 + 1]? = some (.cells #[.int .i64 0, .int .i64 0, .string ⟨#[]⟩, .int .i64 0, .int .i64 0, .int .i64 0, .int .i64 0, .int .i64 0, .slice none 0 0, .slice none 0 0, .string ⟨#[]⟩, .int .i64 0, .string ⟨#[]⟩] 35 (0, 0))) := Lib.hid (by
    rw [hw1]
    refine ⟨(at_oldX _ _ _ (by simp; omega)).trans (heap_alloc2_old _ _ _), (at_oldX _ _ _ (by simp)).trans (heap_alloc2_new _ _ _), ?_⟩
    have e := heap_alloc_new ((w.alloc (.cells (caE c).toArray 50)).alloc (.cells (coE x).toArray 57)) (.cells #[.int .i64 0, .int .i64 0, .string ⟨#[]⟩, .int .i64 0, .int .i64 0, .int .i64 0, .int .i64 0, .int .i64 0, .slice none 0 0, .slice none 0 0, .string ⟨#[]⟩, .int .i64 0, .string ⟨#[]⟩] 35)
    simp only [World.size_alloc] at e
    exact e)
  have r0 : (rowLoad 50 ⟨w.heap.size, 0, none⟩).run Tryz.prog w1 = .ok (caV c) w1 := caV_box HA1.out.1
  have r1 : (rowLoad 57 ⟨w.heap.size + 1, 0, none⟩).run Tryz.prog w1 = .ok (coV x) w1 := coV_box HA1.out.2.1
  have HLX : Hid (Lies P w1 x) := Lib.hid (hx.keep fun b _ hb => HE1.out.block b hb (by simp))
  clear hx hv hc hp hg
  have n0 := caV_new w #[.int .i64 0, .int .i64 0, .int .i64 0, .int .i64 0] c rfl
  have n1 : (rowStore 57 ⟨w.heap.size + 1, 0, none⟩ (coV x)).run Tryz.prog ((w.alloc (.cells (caE c).toArray 50)).alloc (.cells #[.slice none 0 0, .slice none 0 0] 57)) = .ok () ((w.alloc (.cells (caE c).toArray 50)).alloc (.cells (coE x).toArray 57)) := by
    have h := coV_new (w.alloc (.cells (caE c).toArray 50)) #[.slice none 0 0, .slice none 0 0] x rfl
    simp only [World.size_alloc] at h
    exact h
  go_enter Tryz.func28, Tryz.ntmps28
  go_upto_region 1 with (fail)
  refine wp_world (fun W => W = w1) (by rw [hw1]; rfl) (fun W hW => ?_)
  rw [hW]
  clear hW W hw1 n0 n1
  go_upto_region 2 with (first
    | (go_at_call 15
       refine (draft23_any (P := P) c x w1 HV.out HLX.out HC.out.1 HC.out.2).mono ?_
       rintro e w2 ⟨⟨y, q, rfl, hor, hly⟩, hex⟩
       have HY : Hid (y.1.list.length ≤ 2 ∧ y.1.pins.length ≤ 1 ∧ (pinsL y.1.pins).length ≤ 1200000) := Lib.hid (by
         rcases hor with ⟨_, rfl⟩ | ⟨_, _, h⟩
         · exact ⟨Nat.zero_le _, Nat.zero_le _, Nat.zero_le _⟩
         · rw [h]; exact ⟨HL2.out, HPN.out.1, HPN.out.2⟩)
       have HLY : Hid (Lies (fun k => w1.heap.size ≤ k) w2 y) := Lib.hid hly
       have HE2 : Hid (Ex w1.heap.size none w1 w2) := Lib.hid hex
       have hz2 : w1.heap.size ≤ w2.heap.size := hex.size
       have hn2 := drV_new w2 #[.int .i64 0, .int .i64 0, .int .i64 0, .int .i64 0, .slice none 0 0, .slice none 0 0] y rfl
       clear hor hly hex r0 r1)
    | fail)
  obtain ⟨w3, hw3⟩ : ∃ w3 : World, w3 = w2.alloc (.cells (drE y).toArray 47) := ⟨_, rfl⟩
  have HE3 : Hid (Ex w1.heap.size none w1 w3) := Lib.hid (by rw [hw3]; exact HE2.out.allocX _)
  have r3 : (rowLoad 47 ⟨w2.heap.size, 0, none⟩).run Tryz.prog w3 = .ok (drV y) w3 := drV_box (by rw [hw3]; exact heap_alloc_new _ _)
  have HL3 : Hid (Lies (fun k => w1.heap.size ≤ k) w3 y) := Lib.hid (HLY.out.keep fun b _ hb => by rw [hw3]; exact at_oldX _ _ _ hb)
  refine wp_world (fun W => W = w3) (by rw [hw3]) (fun W hW => ?_)
  rw [hW]
  clear hW W hw3 hn2
  have hz3 := HE3.out.size
  go_wp2_with (first
    | (go_at_call 18
       refine (millV_any (P := fun k => w1.heap.size ≤ k) a n 1 y w3 HL3.out ⟨by have := HY.out.1; omega, by have := HY.out.2.1; omega⟩ HY.out.2.2 hn).mono ?_
       rintro e w4 ⟨hm, hex⟩
       obtain ⟨z, rfl, hz, hlz⟩ := millE_stE hm ⟨by have := HY.out.1; omega, by have := HY.out.2.1; omega⟩
       have HZ : Hid ((z.1.list.length ≤ 100 ∧ z.1.pins.length ≤ 100) ∧ Lies (fun k => w3.heap.size ≤ k) w4 z) := Lib.hid ⟨hz, hlz⟩
       have HE4 : Hid (Ex w1.heap.size none w1 w4) := Lib.hid (HE3.out.thenW hex)
       have HR4 : Hid (w4.heap[w.heap.size + 1 + 1]? = some (.cells #[.int .i64 0, .int .i64 0, .string ⟨#[]⟩, .int .i64 0, .int .i64 0, .int .i64 0, .int .i64 0, .int .i64 0, .slice none 0 0, .slice none 0 0, .string ⟨#[]⟩, .int .i64 0, .string ⟨#[]⟩] 35 (0, 0))) := Lib.hid ((HE4.out.block _ (by omega) (by simp)).trans HA1.out.2.2)
       have hst : (rowStore 35 ⟨w.heap.size + 1 + 1, 0, none⟩ (stV z)).run Tryz.prog w4 = .ok () (w4.setRow (w.heap.size + 1 + 1) (stE z).toArray) := run_rowStore (P := Tryz.prog) w4 (w.heap.size + 1 + 1) 35 35 _ (stV z).cells HR4.out Tryz.sizeStv rfl (stV_one _)
       clear hm hz hlz hex r3)
    | fail)
  refine bodyPost_ret (v := stV z) (results_cell_row rfl _ _ (w.heap.size + 1 + 1) 35 (stE z).toArray (0, 0) _ (by rfl) (setRow_heap _ _ _ _ _ _ HR4.out) Tryz.underlying35 rfl Tryz.sizeStv) rfl ?_
  exact ⟨⟨z, rfl, HZ.out.1, (HZ.out.2.keep fun b hb _ => setRow_other _ _ _ _ (by omega)).mono fun b hb _ => by omega⟩, (HE1.out.thenW HE4.out).setRow _ _ (.inr (by omega))⟩
end Go.Proofs.YtaihmldiglgipaaGreat

namespace Go.Proofs.YtaihmldiglgipaaGreat
open Go.RowKit Go.Sort

theorem src_lit (w : World) (x : St × Sv × Sv) : Src (w.alloc (.cells (flatL stE [x]).toArray 35)) (some ⟨w.heap.size, 0, none⟩) [x] := .inr ⟨_, rfl, fun j v hj => by
  rw [Addr.add_lit, Nat.zero_add, cell_of_row _ _ _ _ _ _ (heap_alloc_new w _), ← hj]
  simp⟩
/-- What law36.papers answers. -/
def PapE (e : Ending) (w' : World) : Prop := ∃ (ro : Option Addr) (rc : Nat) (l : List St), e = .returned (.slice ro l.length rc) ∧ SlAt stRep (fun _ => True) w' ro l ∧ l.length ≤ 12 ∧ ∀ s ∈ l, s.list.length ≤ 100 ∧ s.pins.length ≤ 100
attribute [local go_sem ↓] rowLoad_ca rowStore_ca rowLoad_stv rowStore_stv rowBuild_stv
set_option maxHeartbeats 32000000 in
set_option maxRecDepth 100000 in
theorem papers_w (N p : Nat) (w : World) (hd : DiceOK N w p) (hN : N ≤ w.heap.size) :
    Calls Tryz.prog 9 #[.pointer (some ⟨p, 0, none⟩)] w fun e w' => PapE e w' ∧ DiceOK N w' p ∧ Ex w.heap.size (some p) w w' := by
  have hpN := hd.lt
  have HD0 := Lib.hid hd
  clear hd
  go_enter Tryz.func9, Tryz.ntmps9
  go_upto_region 3 with (first
    | (go_at_call 12
       fail_if_success (have _x := H1)
       refine (caseM_w N p 0 w HD0.out hN).mono ?_
       rintro e w1 ⟨⟨c1, rfl, hc1⟩, hd1, hex1⟩
       have H1 : Hid (DiceOK N w1 p ∧ Ex w.heap.size (some p) w w1) := Lib.hid ⟨hd1, hex1⟩
       have HV1 : Hid (validC c1.1 c1.2.1 c1.2.2.1 c1.2.2.2 = true) := Lib.hid (hc1.valid (by omega) (by omega))
       have hz1 : w.heap.size ≤ w1.heap.size := hex1.size
       clear hc1 hd1 hex1)
    | (go_at_call 12
       refine (caseM_w N p 1 w1 H1.out.1 (by omega)).mono ?_
       rintro e w2 ⟨⟨c2, rfl, hc2⟩, hd2, hex2⟩
       have H2 : Hid (DiceOK N w2 p ∧ Ex w.heap.size (some p) w w2) := Lib.hid ⟨hd2, H1.out.2.trans hex2 hz1 (fun q h _ => h)⟩
       have HV : Hid (validC c1.1 c1.2.1 c1.2.2.1 c1.2.2.2 = true ∧ validC c2.1 c2.2.1 c2.2.2.1 c2.2.2.2 = true) := Lib.hid ⟨HV1.out, hc2.valid (by omega) (by omega)⟩
       have hz2 : w1.heap.size ≤ w2.heap.size := hex2.size
       have hs1 := caV_set c1 (heap_alloc2_old w2 (.cells #[.int .i64 0, .int .i64 0, .int .i64 0, .int .i64 0] 50) (.cells #[.int .i64 0, .int .i64 0, .int .i64 0, .int .i64 0] 50)) rfl
       have hs2 := caV_set c2 ((setRow_other _ w2.heap.size (w2.heap.size + 1) (caE c1).toArray (by omega)).trans (heap_alloc2_new w2 (.cells #[.int .i64 0, .int .i64 0, .int .i64 0, .int .i64 0] 50) (.cells #[.int .i64 0, .int .i64 0, .int .i64 0, .int .i64 0] 50))) rfl
       clear hc2 hd2 hex2)
    | fail)
  obtain ⟨w3, hw3⟩ : ∃ w3 : World, w3 = (((w2.alloc (.cells #[.int .i64 0, .int .i64 0, .int .i64 0, .int .i64 0] 50)).alloc (.cells #[.int .i64 0, .int .i64 0, .int .i64 0, .int .i64 0] 50)).setRow w2.heap.size (caE c1).toArray).setRow (w2.heap.size + 1) (caE c2).toArray := ⟨_, rfl⟩
  have HX3 : Hid (Ex w2.heap.size none w2 w3) := Lib.hid (by rw [hw3]; exact ((((Ex.new w2 _).alloc (by simp) _).setRow _ _ (.inr (Nat.le_refl _))).setRow _ _ (.inr (by omega))))
  have HB3 : Hid (w3.heap[w2.heap.size]? = some (.cells (caE c1).toArray 50 (0, 0)) ∧ w3.heap[w2.heap.size + 1]? = some (.cells (caE c2).toArray 50 (0, 0))) := Lib.hid (by
    rw [hw3]
    refine ⟨(setRow_other _ _ _ _ (by omega)).trans (setRow_heap _ _ _ _ _ _ (heap_alloc2_old _ _ _)), setRow_heap _ _ _ _ _ _ ((setRow_other _ _ _ _ (by omega)).trans (heap_alloc2_new _ _ _))⟩)
  have HD3 : Hid (DiceOK N w3 p) := Lib.hid (H2.out.1.keep HX3.out (by omega))
  have HEW : Hid (Ex w.heap.size (some p) w w3) := Lib.hid (H2.out.2.trans HX3.out (by omega) (by simp))
  have hz3 : w2.heap.size + 1 + 1 = w3.heap.size := by rw [hw3]; simp
  have HC : Hid (∀ w', Ex w3.heap.size (some p) w3 w' → (rowLoad 50 ⟨w2.heap.size, 0, none⟩).run Tryz.prog w' = .ok (caV c1) w' ∧ (rowLoad 50 ⟨w2.heap.size + 1, 0, none⟩).run Tryz.prog w' = .ok (caV c2) w') := Lib.hid (fun w' h => ⟨caV_box ((h.block _ (by omega) (by simp; omega)).trans HB3.out.1), caV_box ((h.block _ (by omega) (by simp; omega)).trans HB3.out.2)⟩)
  refine wp_world (fun W => W = w3) (by rw [hw3]) (fun W hW => ?_)
  rw [hW]
  clear hW W hw3 hs1 hs2
  go_upto_region 4 with (first
    | (go_at_call 13
       refine (next_w N p 12 w3 HD3.out (by omega) (by omega)).mono ?_
       rintro e w0 ⟨c0, rfl, hc0, hd0, hex0⟩
       have H0 : Hid (DiceOK N w0 p ∧ Ex w3.heap.size (some p) w3 w0) := Lib.hid ⟨hd0, hex0⟩
       clear hd0 hex0)
    | fail)
  go_loopw [3, 6] (fun v i wr => ∃ (c k : Nat) (ro : Option Addr) (rc : Nat) (l : List St), i = .int .i64 c ∧ k + c ≤ 11 ∧ v = .slice ro k rc ∧ Hid (l.length = k) ∧ Hid (OwnS wr w3.heap.size ro rc l) ∧ Hid (∀ s ∈ l, s.list.length ≤ 100 ∧ s.pins.length ≤ 100) ∧ Hid (DiceOK N wr p) ∧ Ex w3.heap.size (some p) w3 wr) (fun _ i _ => (intOf i).toNat)
  case atStart => exact ⟨c0, 0, none, 0, [], rfl, by omega, rfl, Lib.hid rfl, Lib.hid (OwnS.nil _ _), Lib.hid (fun _ h => by cases h), Lib.hid H0.out.1, H0.out.2⟩
  case round =>
    obtain ⟨c, k, ro, rc, l, rfl, hkc, rfl, HN, HO, HLI, HD, hex⟩ := hrel
    have hsz := hex.size
    have HEX := Lib.hid hex
    clear hex
    by_cases hlt : 0 < c
    · have hltI : (0 : Int) < (c : Int) := by omega
      have hwc : IntKind.i64.wrap ((c : Int) - 1) = ((c - 1 : Nat) : Int) := by rw [IntKind.wrap_i64]; omega
      go_upto_region 7 with (first
        | (go_at_call 13
           refine (next_w N p 4 wr HD.out (by omega) (by omega)).mono ?_
           rintro e w5 ⟨a, rfl, ha, hd5, hex5⟩
           have H5 : Hid (DiceOK N w5 p) := Lib.hid hd5
           have HX5 : Hid (Ex wr.heap.size (some p) wr w5) := Lib.hid hex5
           have hz5 : wr.heap.size ≤ w5.heap.size := hex5.size
           clear hd5 hex5)
        | fail)
      obtain ⟨wq, hwq⟩ : ∃ wq : World, wq = w5 := ⟨_, rfl⟩
      rw [← hwq] at H5 HX5 hz5 ⊢
      clear hwq
      go_upto_region 9 with (first
        | (go_at_call 13
           refine (next_w N p 5 wq H5.out (by omega) (by omega)).mono ?_
           rintro e w4 ⟨j, rfl, hj, hd4, hex4⟩
           have H4 : Hid (DiceOK N w4 p) := Lib.hid hd4
           have HX4 : Hid (Ex wr.heap.size (some p) wr w4) := Lib.hid (HX5.out.trans hex4 hz5 (fun q h _ => h))
           have hzr4 : wr.heap.size ≤ w4.heap.size := HX4.out.size
           clear hd4 hex4)
        | fail)
      have HE4 : Hid (Ex w3.heap.size (some p) w3 w4) := Lib.hid (HEX.out.trans HX4.out hsz (fun q h _ => h))
      have hz4 : w3.heap.size ≤ w4.heap.size := HE4.out.size
      have HO4 : Hid (OwnS w4 w3.heap.size ro rc l) := Lib.hid (HO.out.keepP HX4.out (Nat.le_refl _) (fun q h => by cases h; omega))
      have HOr : Hid (∀ w', Ex w4.heap.size (some p) w4 w' → OwnS w' w3.heap.size ro rc l) := Lib.hid (fun w' h => HO4.out.keepP h (Nat.le_refl _) (fun q h => by cases h; omega))
      have HF4 : Hid (Ex w4.heap.size (some p) w4 w4) := Lib.hid (Ex.refl _ _ _)
      clear H5 HX5
      have hj' : j = 0 ∨ j = 1 ∨ j = 2 ∨ j = 3 ∨ j = 4 := by omega
      clear hj
      rcases hj' with rfl | rfl | rfl | rfl | rfl
      · go_upto_region 11 with (fail)
        obtain ⟨rc1, rc2'⟩ := HC.out _ HE4.out
        have hlit := fun (x : St × Sv × Sv) (W : World) => stV_litN1 W x
        go_region_held3 (fun w' => (rowLoad 50 ⟨w2.heap.size, 0, none⟩).run Tryz.prog w' = .ok (caV c1) w') (exact (HC.out _ (by repeat (first | with_reducible exact HE9.out | with_reducible exact HE7.out | with_reducible exact HE6.out | with_reducible exact HE5.out | with_reducible exact HE4.out | with_reducible refine Ex.alloc ?_ (by omega) _ | with_reducible refine Ex.drew ?_))).1)
          (first
            | (go_at_call 13
               refine (next_w N p 9 _ (DiceOK.keep H4.out (by repeat (first | with_reducible exact Ex.refl N none _ | with_reducible refine Ex.drew ?_)) (Nat.le_refl _)) (by omega) (by omega)).mono ?_
               rintro e w5 ⟨n9, rfl, hn9, hd5, hex5⟩
               have H5 : Hid (DiceOK N w5 p) := Lib.hid hd5
               have HX5 : Hid (Ex w4.heap.size (some p) w4 w5) := Lib.hid (Ex.trans (by repeat (first | with_reducible exact Ex.refl _ _ _ | with_reducible refine Ex.drew ?_)) hex5 (Nat.le_refl _) (fun q h _ => h))
               have HE5 : Hid (Ex w3.heap.size (some p) w3 w5) := Lib.hid (HE4.out.trans HX5.out hz4 (fun q h _ => h))
               have hz5 : w4.heap.size ≤ w5.heap.size := HX5.out.size
               clear hd5 hex5)
            | (go_at_call 16
               refine (contentM_w N p c1 _ (DiceOK.keep H5.out (by repeat (first | with_reducible exact Ex.refl N none _ | with_reducible refine Ex.drew ?_)) (Nat.le_refl _)) (by first | omega | (show N ≤ w5.heap.size; omega))).mono ?_
               rintro e w6 ⟨⟨y, rfl, hy1, hy2, hy3, hyl⟩, hd6, hex6⟩
               have H6 : Hid (DiceOK N w6 p) := Lib.hid hd6
               have HX6 : Hid (Ex w5.heap.size (some p) w5 w6) := Lib.hid (Ex.trans (by repeat (first | with_reducible exact Ex.refl _ _ _ | with_reducible refine Ex.drew ?_)) hex6 (Nat.le_refl _) (fun q h _ => h))
               have HE6 : Hid (Ex w3.heap.size (some p) w3 w6) := Lib.hid (HE5.out.trans HX6.out (by omega) (fun q h _ => h))
               have hz6 : w5.heap.size ≤ w6.heap.size := HX6.out.size
               have HY : Hid (ContOK c1.2.1 y.1.list ∧ y.1.pins.length ≤ 1 ∧ (∀ p ∈ y.1.pins, p.2.2.size ≤ 1000) ∧ Lies (fun _ => True) w6 y) := Lib.hid ⟨hy1, hy2, hy3, hyl.mono fun _ _ _ => trivial⟩
               clear hd6 hex6 hy1 hy2 hy3 hyl)
            | (go_at_call 28
               refine (voteM_any (P := fun _ => True) (a : Int) (n9 : Int) c1 y _ HV.out.1 (Lies.keep HY.out.2.2.2 fun b _ hb => (by repeat (first | with_reducible exact Ex.refl _ none _ | with_reducible refine Ex.drew ?_) : Ex w6.heap.size none w6 _).block b hb (by simp)) HY.out.1 HY.out.2.1 HY.out.2.2.1 (by omega)).mono ?_
               rintro e w7 ⟨⟨z, rfl, hz, hzl⟩, hex7⟩
               have HX7 : Hid (Ex w6.heap.size none w6 w7) := Lib.hid (Ex.trans (by repeat (first | with_reducible exact Ex.refl _ _ _ | with_reducible refine Ex.drew ?_)) hex7 (Nat.le_refl _) (by simp))
               have H7 : Hid (DiceOK N w7 p) := Lib.hid (H6.out.keep HX7.out (by omega))
               have HE7 : Hid (Ex w3.heap.size (some p) w3 w7) := Lib.hid (HE6.out.trans HX7.out (by omega) (by simp))
               have hz7 : w6.heap.size ≤ w7.heap.size := HX7.out.size
               have HZ : Hid (z.1.list.length ≤ 100 ∧ z.1.pins.length ≤ 100) := Lib.hid hz
               have HZL : Hid (Lies (fun b => wr.heap.size ≤ b) w7 z) := Lib.hid (hzl.mono fun b hb _ => by have hb' : w6.heap.size ≤ b := hb; omega)
               have HO7 : Hid (OwnS w7 w3.heap.size ro rc l) := Lib.hid (HO4.out.keepP (((HX5.out.trans HX6.out (by omega) (fun q h _ => h)).trans HX7.out (by omega) (by simp))) (Nat.le_refl _) (fun q h => by cases h; omega))
               clear hex7 hz hzl)
            | (refine step_appT rfl (.tmp 38) (.tmp 47) _ (by rfl) Tryz.underlying29 Tryz.infoSt w3.heap.size w3.heap.size ro rc k l HN.out (by rfl) (some ⟨w7.heap.size, 0, none⟩) 1 1 (by rfl) [z] rfl (HO7.out.t.keep (Ex.new w7 _) (Nat.le_refl _)) (src_lit w7 z) (fun y hy => by rw [List.mem_singleton.1 hy]; exact (HZL.out.keep fun b _ hb => (Ex.new w7 _).block b hb (by simp)).mono fun b h _ => ⟨by omega, fun e => by have := HO.out.t.row b e; omega⟩) (by omega) (by simp; omega) (k + 1) (by omega) ?_
               intro ro2 rc2 w9 hown9 hex9 hk9 hr9
               have HO9 := Lib.hid hown9
               have HX9 : Hid (Ex w3.heap.size none w7 w9) := Lib.hid ((((Ex.refl w3.heap.size none w7).alloc (by omega) _)).thenBX hex9)
               have HD9 : Hid (DiceOK N w9 p) := Lib.hid (H7.out.keep HX9.out (by omega))
               have HE9 : Hid (Ex w3.heap.size (some p) w3 w9) := Lib.hid (HE7.out.trans HX9.out (Nat.le_refl _) (by simp))
               clear hown9 hex9 hk9 hr9)
            | fail)
        go_wp2
        go_roundw
        case rel => exact ⟨c - 1, k + 1, ro2, rc2, l ++ [z.1], by go_num, by omega, rfl, Lib.hid (by rw [List.length_append, HN.out]; rfl), Lib.hid HO9.out, Lib.hid (fun s hs => by
          rcases List.mem_append.1 hs with h | h
          · exact HLI.out s h
          · rw [List.mem_singleton.1 h]; exact HZ.out), HD9.out, HE9.out⟩
        case measure => simp [intOf] <;> omega
      · go_upto_region 11 with (fail)
        obtain ⟨rc1, rc2'⟩ := HC.out _ HE4.out
        have hlit := fun (x : St × Sv × Sv) (W : World) => stV_litN1 W x
        go_region_held3 (fun w' => (rowLoad 50 ⟨w2.heap.size, 0, none⟩).run Tryz.prog w' = .ok (caV c1) w') (exact (HC.out _ (by repeat (first | with_reducible exact HE9.out | with_reducible exact HE7.out | with_reducible exact HE6.out | with_reducible exact HE5.out | with_reducible exact HE4.out | with_reducible refine Ex.alloc ?_ (by omega) _ | with_reducible refine Ex.drew ?_))).1)
          (first
            | (go_at_call 13
               refine (next_w N p 9 _ (DiceOK.keep H4.out (by repeat (first | with_reducible exact Ex.refl N none _ | with_reducible refine Ex.drew ?_)) (Nat.le_refl _)) (by omega) (by omega)).mono ?_
               rintro e w5 ⟨n9, rfl, hn9, hd5, hex5⟩
               have H5 : Hid (DiceOK N w5 p) := Lib.hid hd5
               have HX5 : Hid (Ex w4.heap.size (some p) w4 w5) := Lib.hid (Ex.trans (by repeat (first | with_reducible exact Ex.refl _ _ _ | with_reducible refine Ex.drew ?_)) hex5 (Nat.le_refl _) (fun q h _ => h))
               have HE5 : Hid (Ex w3.heap.size (some p) w3 w5) := Lib.hid (HE4.out.trans HX5.out hz4 (fun q h _ => h))
               have hz5 : w4.heap.size ≤ w5.heap.size := HX5.out.size
               clear hd5 hex5)
            | (go_at_call 16
               refine (contentM_w N p c1 _ (DiceOK.keep H5.out (by repeat (first | with_reducible exact Ex.refl N none _ | with_reducible refine Ex.drew ?_)) (Nat.le_refl _)) (by first | omega | (show N ≤ w5.heap.size; omega))).mono ?_
               rintro e w6 ⟨⟨y, rfl, hy1, hy2, hy3, hyl⟩, hd6, hex6⟩
               have H6 : Hid (DiceOK N w6 p) := Lib.hid hd6
               have HX6 : Hid (Ex w5.heap.size (some p) w5 w6) := Lib.hid (Ex.trans (by repeat (first | with_reducible exact Ex.refl _ _ _ | with_reducible refine Ex.drew ?_)) hex6 (Nat.le_refl _) (fun q h _ => h))
               have HE6 : Hid (Ex w3.heap.size (some p) w3 w6) := Lib.hid (HE5.out.trans HX6.out (by omega) (fun q h _ => h))
               have hz6 : w5.heap.size ≤ w6.heap.size := HX6.out.size
               have HY : Hid (ContOK c1.2.1 y.1.list ∧ y.1.pins.length ≤ 1 ∧ (∀ p ∈ y.1.pins, p.2.2.size ≤ 1000) ∧ Lies (fun _ => True) w6 y) := Lib.hid ⟨hy1, hy2, hy3, hyl.mono fun _ _ _ => trivial⟩
               clear hd6 hex6 hy1 hy2 hy3 hyl)
            | (go_at_call 28
               refine (voteM_any (P := fun _ => True) (a : Int) (n9 : Int) c1 y _ HV.out.1 (Lies.keep HY.out.2.2.2 fun b _ hb => (by repeat (first | with_reducible exact Ex.refl _ none _ | with_reducible refine Ex.drew ?_) : Ex w6.heap.size none w6 _).block b hb (by simp)) HY.out.1 HY.out.2.1 HY.out.2.2.1 (by omega)).mono ?_
               rintro e w7 ⟨⟨z, rfl, hz, hzl⟩, hex7⟩
               have HX7 : Hid (Ex w6.heap.size none w6 w7) := Lib.hid (Ex.trans (by repeat (first | with_reducible exact Ex.refl _ _ _ | with_reducible refine Ex.drew ?_)) hex7 (Nat.le_refl _) (by simp))
               have H7 : Hid (DiceOK N w7 p) := Lib.hid (H6.out.keep HX7.out (by omega))
               have HE7 : Hid (Ex w3.heap.size (some p) w3 w7) := Lib.hid (HE6.out.trans HX7.out (by omega) (by simp))
               have hz7 : w6.heap.size ≤ w7.heap.size := HX7.out.size
               have HZ : Hid (z.1.list.length ≤ 100 ∧ z.1.pins.length ≤ 100) := Lib.hid hz
               have HZL : Hid (Lies (fun b => wr.heap.size ≤ b) w7 z) := Lib.hid (hzl.mono fun b hb _ => by have hb' : w6.heap.size ≤ b := hb; omega)
               have HO7 : Hid (OwnS w7 w3.heap.size ro rc l) := Lib.hid (HO4.out.keepP (((HX5.out.trans HX6.out (by omega) (fun q h _ => h)).trans HX7.out (by omega) (by simp))) (Nat.le_refl _) (fun q h => by cases h; omega))
               clear hex7 hz hzl)
            | (refine step_appT rfl (.tmp 38) (.tmp 47) _ (by rfl) Tryz.underlying29 Tryz.infoSt w3.heap.size w3.heap.size ro rc k l HN.out (by rfl) (some ⟨w7.heap.size, 0, none⟩) 1 1 (by rfl) [z] rfl (HO7.out.t.keep (Ex.new w7 _) (Nat.le_refl _)) (src_lit w7 z) (fun y hy => by rw [List.mem_singleton.1 hy]; exact (HZL.out.keep fun b _ hb => (Ex.new w7 _).block b hb (by simp)).mono fun b h _ => ⟨by omega, fun e => by have := HO.out.t.row b e; omega⟩) (by omega) (by simp; omega) (k + 1) (by omega) ?_
               intro ro2 rc2 w9 hown9 hex9 hk9 hr9
               have HO9 := Lib.hid hown9
               have HX9 : Hid (Ex w3.heap.size none w7 w9) := Lib.hid ((((Ex.refl w3.heap.size none w7).alloc (by omega) _)).thenBX hex9)
               have HD9 : Hid (DiceOK N w9 p) := Lib.hid (H7.out.keep HX9.out (by omega))
               have HE9 : Hid (Ex w3.heap.size (some p) w3 w9) := Lib.hid (HE7.out.trans HX9.out (Nat.le_refl _) (by simp))
               clear hown9 hex9 hk9 hr9)
            | fail)
        go_wp2
        go_roundw
        case rel => exact ⟨c - 1, k + 1, ro2, rc2, l ++ [z.1], by go_num, by omega, rfl, Lib.hid (by rw [List.length_append, HN.out]; rfl), Lib.hid HO9.out, Lib.hid (fun s hs => by
          rcases List.mem_append.1 hs with h | h
          · exact HLI.out s h
          · rw [List.mem_singleton.1 h]; exact HZ.out), HD9.out, HE9.out⟩
        case measure => simp [intOf] <;> omega
      · go_upto_region 13 with (fail)
        obtain ⟨rc1, rc2'⟩ := HC.out _ HE4.out
        have hlit := fun (x : St × Sv × Sv) (W : World) => stV_litN1 W x
        go_region_held3 (fun w' => (rowLoad 50 ⟨w2.heap.size + 1, 0, none⟩).run Tryz.prog w' = .ok (caV c2) w') (exact (HC.out _ (by repeat (first | with_reducible exact HE9.out | with_reducible exact HE7.out | with_reducible exact HE6.out | with_reducible exact HE5.out | with_reducible exact HE4.out | with_reducible refine Ex.alloc ?_ (by omega) _ | with_reducible refine Ex.drew ?_))).2)
          (first
            | (go_at_call 13
               refine (next_w N p 9 _ (DiceOK.keep H4.out (by repeat (first | with_reducible exact Ex.refl N none _ | with_reducible refine Ex.drew ?_)) (Nat.le_refl _)) (by omega) (by omega)).mono ?_
               rintro e w5 ⟨n9, rfl, hn9, hd5, hex5⟩
               have H5 : Hid (DiceOK N w5 p) := Lib.hid hd5
               have HX5 : Hid (Ex w4.heap.size (some p) w4 w5) := Lib.hid (Ex.trans (by repeat (first | with_reducible exact Ex.refl _ _ _ | with_reducible refine Ex.drew ?_)) hex5 (Nat.le_refl _) (fun q h _ => h))
               have HE5 : Hid (Ex w3.heap.size (some p) w3 w5) := Lib.hid (HE4.out.trans HX5.out hz4 (fun q h _ => h))
               have hz5 : w4.heap.size ≤ w5.heap.size := HX5.out.size
               clear hd5 hex5)
            | (go_at_call 16
               refine (contentM_w N p c2 _ (DiceOK.keep H5.out (by repeat (first | with_reducible exact Ex.refl N none _ | with_reducible refine Ex.drew ?_)) (Nat.le_refl _)) (by first | omega | (show N ≤ w5.heap.size; omega))).mono ?_
               rintro e w6 ⟨⟨y, rfl, hy1, hy2, hy3, hyl⟩, hd6, hex6⟩
               have H6 : Hid (DiceOK N w6 p) := Lib.hid hd6
               have HX6 : Hid (Ex w5.heap.size (some p) w5 w6) := Lib.hid (Ex.trans (by repeat (first | with_reducible exact Ex.refl _ _ _ | with_reducible refine Ex.drew ?_)) hex6 (Nat.le_refl _) (fun q h _ => h))
               have HE6 : Hid (Ex w3.heap.size (some p) w3 w6) := Lib.hid (HE5.out.trans HX6.out (by omega) (fun q h _ => h))
               have hz6 : w5.heap.size ≤ w6.heap.size := HX6.out.size
               have HY : Hid (ContOK c2.2.1 y.1.list ∧ y.1.pins.length ≤ 1 ∧ (∀ p ∈ y.1.pins, p.2.2.size ≤ 1000) ∧ Lies (fun _ => True) w6 y) := Lib.hid ⟨hy1, hy2, hy3, hyl.mono fun _ _ _ => trivial⟩
               clear hd6 hex6 hy1 hy2 hy3 hyl)
            | (go_at_call 28
               refine (voteM_any (P := fun _ => True) (a : Int) (n9 : Int) c2 y _ HV.out.2 (Lies.keep HY.out.2.2.2 fun b _ hb => (by repeat (first | with_reducible exact Ex.refl _ none _ | with_reducible refine Ex.drew ?_) : Ex w6.heap.size none w6 _).block b hb (by simp)) HY.out.1 HY.out.2.1 HY.out.2.2.1 (by omega)).mono ?_
               rintro e w7 ⟨⟨z, rfl, hz, hzl⟩, hex7⟩
               have HX7 : Hid (Ex w6.heap.size none w6 w7) := Lib.hid (Ex.trans (by repeat (first | with_reducible exact Ex.refl _ _ _ | with_reducible refine Ex.drew ?_)) hex7 (Nat.le_refl _) (by simp))
               have H7 : Hid (DiceOK N w7 p) := Lib.hid (H6.out.keep HX7.out (by omega))
               have HE7 : Hid (Ex w3.heap.size (some p) w3 w7) := Lib.hid (HE6.out.trans HX7.out (by omega) (by simp))
               have hz7 : w6.heap.size ≤ w7.heap.size := HX7.out.size
               have HZ : Hid (z.1.list.length ≤ 100 ∧ z.1.pins.length ≤ 100) := Lib.hid hz
               have HZL : Hid (Lies (fun b => wr.heap.size ≤ b) w7 z) := Lib.hid (hzl.mono fun b hb _ => by have hb' : w6.heap.size ≤ b := hb; omega)
               have HO7 : Hid (OwnS w7 w3.heap.size ro rc l) := Lib.hid (HO4.out.keepP (((HX5.out.trans HX6.out (by omega) (fun q h _ => h)).trans HX7.out (by omega) (by simp))) (Nat.le_refl _) (fun q h => by cases h; omega))
               clear hex7 hz hzl)
            | (refine step_appT rfl (.tmp 51) (.tmp 60) _ (by rfl) Tryz.underlying29 Tryz.infoSt w3.heap.size w3.heap.size ro rc k l HN.out (by rfl) (some ⟨w7.heap.size, 0, none⟩) 1 1 (by rfl) [z] rfl (HO7.out.t.keep (Ex.new w7 _) (Nat.le_refl _)) (src_lit w7 z) (fun y hy => by rw [List.mem_singleton.1 hy]; exact (HZL.out.keep fun b _ hb => (Ex.new w7 _).block b hb (by simp)).mono fun b h _ => ⟨by omega, fun e => by have := HO.out.t.row b e; omega⟩) (by omega) (by simp; omega) (k + 1) (by omega) ?_
               intro ro2 rc2 w9 hown9 hex9 hk9 hr9
               have HO9 := Lib.hid hown9
               have HX9 : Hid (Ex w3.heap.size none w7 w9) := Lib.hid ((((Ex.refl w3.heap.size none w7).alloc (by omega) _)).thenBX hex9)
               have HD9 : Hid (DiceOK N w9 p) := Lib.hid (H7.out.keep HX9.out (by omega))
               have HE9 : Hid (Ex w3.heap.size (some p) w3 w9) := Lib.hid (HE7.out.trans HX9.out (Nat.le_refl _) (by simp))
               clear hown9 hex9 hk9 hr9)
            | fail)
        go_wp2
        go_roundw
        case rel => exact ⟨c - 1, k + 1, ro2, rc2, l ++ [z.1], by go_num, by omega, rfl, Lib.hid (by rw [List.length_append, HN.out]; rfl), Lib.hid HO9.out, Lib.hid (fun s hs => by
          rcases List.mem_append.1 hs with h | h
          · exact HLI.out s h
          · rw [List.mem_singleton.1 h]; exact HZ.out), HD9.out, HE9.out⟩
        case measure => simp [intOf] <;> omega
      · go_upto_region 16 with (first
          | (go_at_call 13
             fail_if_success (have _x := H5)
             refine (next_w N p 5 w4 H4.out (by omega) (by omega)).mono ?_
             rintro e w5 ⟨n9, rfl, hn9, hd5, hex5⟩
             have H5 : Hid (DiceOK N w5 p) := Lib.hid hd5
             have HF5 : Hid (Ex w4.heap.size (some p) w4 w5) := Lib.hid (HF4.out.trans hex5 (by omega) (fun q h _ => h))
             have HE5 : Hid (Ex w3.heap.size (some p) w3 w5) := Lib.hid (HE4.out.trans HF5.out hz4 (fun q h _ => h))
             have hz5 : w4.heap.size ≤ w5.heap.size := hex5.size
             clear hd5 hex5)
          | (go_at_call 13
             refine (next_w N p 3 w5 H5.out (by omega) (by omega)).mono ?_
             rintro e w6 ⟨t3, rfl, ht3, hd6, hex6⟩
             have H6 : Hid (DiceOK N w6 p) := Lib.hid hd6
             have HF6 : Hid (Ex w4.heap.size (some p) w4 w6) := Lib.hid (HF5.out.trans hex6 (by omega) (fun q h _ => h))
             have HE6 : Hid (Ex w3.heap.size (some p) w3 w6) := Lib.hid (HE4.out.trans HF6.out hz4 (fun q h _ => h))
             have hz6 : w5.heap.size ≤ w6.heap.size := hex6.size
             clear hd6 hex6)
          | (go_at_call 18
             refine (millV_any (P := fun _ => True) (a : Int) (n9 : Int) (t3 : Int) (drD 11 0 0 0 [], ⟨none, 0, 0⟩, ⟨none, 0, 0⟩) w6 ⟨Sl.nil _ _, Sl.nil _ _⟩ ⟨Nat.zero_le _, Nat.zero_le _⟩ (Nat.zero_le _) (by omega)).mono ?_
             rintro e w7 ⟨⟨z, rfl, hz, hzl⟩, hex7⟩
             have H7 : Hid (DiceOK N w7 p) := Lib.hid (H6.out.keep hex7 (by omega))
             have HF7 : Hid (Ex w4.heap.size (some p) w4 w7) := Lib.hid (HF6.out.trans hex7 (by omega) (by simp))
             have hz7 : w6.heap.size ≤ w7.heap.size := hex7.size
             have HZ0 : Hid (z.1.list.length ≤ 100 ∧ z.1.pins.length ≤ 100) := Lib.hid (by rw [hz]; exact ⟨Nat.zero_le _, Nat.zero_le _⟩)
             have hkey : z.1.key = (a : Int) := by rw [hz]; rfl
             have HZL : Hid (Lies (fun b => wr.heap.size ≤ b) w7 z) := Lib.hid (hzl.mono fun b hb _ => by have hb' : w6.heap.size ≤ b := hb; omega)
             have hn7 := stV_new w7 #[.int .i64 0, .int .i64 0, .string ⟨#[]⟩, .int .i64 0, .int .i64 0, .int .i64 0, .int .i64 0, .int .i64 0, .slice none 0 0, .slice none 0 0, .string ⟨#[]⟩, .int .i64 0, .string ⟨#[]⟩] z rfl
             clear hex7 hz hzl)
          | fail)
        obtain ⟨w8, hw8⟩ : ∃ w8 : World, w8 = w7.alloc (.cells (stE z).toArray 35) := ⟨_, rfl⟩
        have HF8 : Hid (Ex w4.heap.size (some p) w4 w8) := Lib.hid (by rw [hw8]; exact HF7.out.alloc (by omega) _)
        have H8 : Hid (DiceOK N w8 p) := Lib.hid (by rw [hw8]; exact H7.out.keep (Ex.new w7 _) (by omega))
        have HB8 : Hid (w8.heap[w7.heap.size]? = some (.cells (stE z).toArray 35 (0, 0))) := Lib.hid (by rw [hw8]; exact heap_alloc_new _ _)
        have hz8 : w8.heap.size = w7.heap.size + 1 := by rw [hw8]; simp
        have HL8 : Hid (Lies (fun b => wr.heap.size ≤ b ∧ b ≠ w7.heap.size) w8 z) := Lib.hid (by rw [hw8]; exact (HZL.out.mono (P' := fun b => wr.heap.size ≤ b ∧ b ≠ w7.heap.size) fun b hb hlt => ⟨hb, by omega⟩).keep fun b _ hb => at_oldX _ _ _ hb)
        have HKEY := Lib.hid hkey
        refine wp_world (fun W => W = w8) (by rw [hw8]; rfl) (fun W hW => ?_)
        rw [hW]
        clear hW W hw8 hn7 hkey
        go_upto_if 72 with (first
          | (go_at_call 14
             refine (one_w N p 3 w8 H8.out (by omega) (by omega)).mono ?_
             rintro e wa ⟨b, rfl, hda, hexa⟩
             have Ha : Hid (DiceOK N wa p) := Lib.hid hda
             have HFa : Hid (Ex w4.heap.size (some p) w4 wa) := Lib.hid (HF8.out.trans hexa (by omega) (fun q h _ => h))
             have HEa : Hid (Ex w3.heap.size (some p) w3 wa) := Lib.hid (HE4.out.trans HFa.out hz4 (fun q h _ => h))
             have HBa : Hid (wa.heap[w7.heap.size]? = some (.cells (stE z).toArray 35 (0, 0))) := Lib.hid ((hexa.block _ (by omega) (by simp; omega)).trans HB8.out)
             have HLa : Hid (Lies (fun b => wr.heap.size ≤ b ∧ b ≠ w7.heap.size) wa z) := Lib.hid (HL8.out.keep fun b hb hlt => hexa.block b hlt (by have := hb.1; simp; omega))
             have hza : w8.heap.size ≤ wa.heap.size := hexa.size
             clear hda hexa)
          | fail)
        cases b with
        | false =>
          have HOa : Hid (OwnS wa w3.heap.size ro rc l) := Lib.hid (HOr.out wa HFa.out)
          have HZ := HZ0
          have ra : (rowLoad 35 ⟨w7.heap.size, 0, none⟩).run Tryz.prog wa = .ok (stV z) wa := stV_box HBa.out
          have hlit := fun (W : World) => stV_litN1 W z
          have HLb : Hid (Lies (fun b => wr.heap.size ≤ b) wa z) := Lib.hid (HLa.out.mono fun b hb _ => hb.1)
          go_wp2_with (first
            | (at_builtin
               refine wpList_appT rfl (.tmp 79) (.tmp 81) _ (by rfl) Tryz.underlying29 Tryz.infoSt w3.heap.size w3.heap.size ro rc k l HN.out (by rfl) (some ⟨wa.heap.size, 0, none⟩) 1 1 (by rfl) [z] rfl (HOa.out.t.keep (Ex.new wa _) (Nat.le_refl _)) (src_lit wa z) (fun y hy => by rw [List.mem_singleton.1 hy]; exact (HLb.out.keep fun b _ hb => (Ex.new wa _).block b hb (by simp)).mono fun b h _ => ⟨by omega, fun e => by have := HO.out.t.row b e; omega⟩) (by omega) (by simp; omega) (k + 1) (by omega) ?_
               intro ro2 rc2 w9 hown9 hex9 hk9 hr9
               have HO9 := Lib.hid hown9
               have HX9 : Hid (Ex w3.heap.size none wa w9) := Lib.hid ((((Ex.refl w3.heap.size none wa).alloc (by omega) _)).thenBX hex9)
               have HD9 : Hid (DiceOK N w9 p) := Lib.hid (Ha.out.keep HX9.out (by omega))
               have HE9 : Hid (Ex w3.heap.size (some p) w3 w9) := Lib.hid (HEa.out.trans HX9.out (Nat.le_refl _) (by simp))
               clear hown9 hex9 hk9 hr9)
            | fail)
          go_roundw
          case rel => exact ⟨c - 1, k + 1, ro2, rc2, l ++ [z.1], by go_num, by omega, rfl, Lib.hid (by rw [List.length_append, HN.out]; rfl), Lib.hid HO9.out, Lib.hid (fun s hs => by
            rcases List.mem_append.1 hs with h | h
            · exact HLI.out s h
            · rw [List.mem_singleton.1 h]; exact HZ.out), HD9.out, HE9.out⟩
          case measure => simp [intOf] <;> omega
        | true =>
          obtain ⟨⟨q0, q1, q2, q3, q4, q5, q6, q7, q8, q9, q10, q11, q12⟩, fz⟩ := st_block (s := z.1) (lo := z.2.1.ao) (ln := z.2.1.n) (lc := z.2.1.c) (po := z.2.2.ao) (pn := z.2.2.n) (pc := z.2.2.c) HBa.out
          rw [HKEY.out] at q11
          have hwk : IntKind.i64.wrap ((a : Int) + 1) = (a : Int) + 1 := by rw [IntKind.wrap_i64]; omega
          go_upto_region 18 with (fail)
          clear q0 q1 q2 q3 q4 q5 q6 q7 q8 q9 q10 q11 q12 fz
          obtain ⟨wb, hwb⟩ : ∃ wb : World, wb = wa.setCell ⟨w7.heap.size, 11, none⟩ (.int .i64 ((a : Int) + 1)) := ⟨_, rfl⟩
          obtain ⟨zz, hzz⟩ : ∃ zz : St × Sv × Sv, zz = ({ z.1 with key := (a : Int) + 1 }, z.2.1, z.2.2) := ⟨_, rfl⟩
          have HBb : Hid (wb.heap[w7.heap.size]? = some (.cells (stE zz).toArray 35 (0, 0))) := Lib.hid (by rw [hwb, heap_setCell_same _ _ _ _ _ _ HBa.out, hzz]; rfl)
          have HXb : Hid (Ex w4.heap.size none wa wb) := Lib.hid (by rw [hwb]; exact (Ex.refl _ _ wa).setCell _ _ _ (.inr (by omega)))
          have HFb : Hid (Ex w4.heap.size (some p) w4 wb) := Lib.hid (HFa.out.trans HXb.out (Nat.le_refl _) (by simp))
          have Hb : Hid (DiceOK N wb p) := Lib.hid (Ha.out.keep HXb.out (by omega))
          have HEb : Hid (Ex w3.heap.size (some p) w3 wb) := Lib.hid (HE4.out.trans HFb.out hz4 (fun q h _ => h))
          have HOb : Hid (OwnS wb w3.heap.size ro rc l) := Lib.hid (HOr.out wb HFb.out)
          have HLb : Hid (Lies (fun b => wr.heap.size ≤ b) wb zz) := Lib.hid (by
            rw [hwb, hzz]
            have h1 : Lies (fun b => wr.heap.size ≤ b ∧ b ≠ w7.heap.size) (wa.setCell ⟨w7.heap.size, 11, none⟩ (.int .i64 ((a : Int) + 1))) z := HLa.out.keep fun b hb hlt => set_far hb.2 rfl
            exact (Lies.mono h1 fun b hb _ => hb.1 : Lies (fun b => wr.heap.size ≤ b) _ z))
          have HZ : Hid (zz.1.list.length ≤ 100 ∧ zz.1.pins.length ≤ 100) := Lib.hid (by rw [hzz]; exact HZ0.out)
          have hzb : wa.heap.size = wb.heap.size := by rw [hwb]; simp
          have rb : (rowLoad 35 ⟨w7.heap.size, 0, none⟩).run Tryz.prog wb = .ok (stV zz) wb := stV_box HBb.out
          have hlit := fun (W : World) => stV_litN1 W zz
          refine wp_world (fun W => W = wb) (by rw [hwb]) (fun W hW => ?_)
          rw [hW]
          clear hW W hwb hzz
          go_wp2_with (first
            | (at_builtin
               refine wpList_appT rfl (.tmp 79) (.tmp 81) _ (by rfl) Tryz.underlying29 Tryz.infoSt w3.heap.size w3.heap.size ro rc k l HN.out (by rfl) (some ⟨wb.heap.size, 0, none⟩) 1 1 (by rfl) [zz] rfl (HOb.out.t.keep (Ex.new wb _) (Nat.le_refl _)) (src_lit wb zz) (fun y hy => by rw [List.mem_singleton.1 hy]; exact (HLb.out.keep fun b _ hb => (Ex.new wb _).block b hb (by simp)).mono fun b h _ => ⟨by omega, fun e => by have := HO.out.t.row b e; omega⟩) (by omega) (by simp; omega) (k + 1) (by omega) ?_
               intro ro2 rc2 w9 hown9 hex9 hk9 hr9
               have HO9 := Lib.hid hown9
               have HX9 : Hid (Ex w3.heap.size none wb w9) := Lib.hid ((((Ex.refl w3.heap.size none wb).alloc (by omega) _)).thenBX hex9)
               have HD9 : Hid (DiceOK N w9 p) := Lib.hid (Hb.out.keep HX9.out (by omega))
               have HE9 : Hid (Ex w3.heap.size (some p) w3 w9) := Lib.hid (HEb.out.trans HX9.out (Nat.le_refl _) (by simp))
               clear hown9 hex9 hk9 hr9)
            | fail)
          go_roundw
          case rel => exact ⟨c - 1, k + 1, ro2, rc2, l ++ [zz.1], by go_num, by omega, rfl, Lib.hid (by rw [List.length_append, HN.out]; rfl), Lib.hid HO9.out, Lib.hid (fun s hs => by
            rcases List.mem_append.1 hs with h | h
            · exact HLI.out s h
            · rw [List.mem_singleton.1 h]; exact HZ.out), HD9.out, HE9.out⟩
          case measure => simp [intOf] <;> omega
      · have hlit := fun (x : St × Sv × Sv) (W : World) => stV_litN1 W x
        go_wp2_with (first
          | (go_at_call 13
             fail_if_success (have _x := H5)
             refine (next_w N p 9 w4 H4.out (by omega) (by omega)).mono ?_
             rintro e w5 ⟨n9, rfl, hn9, hd5, hex5⟩
             have H5 : Hid (DiceOK N w5 p) := Lib.hid hd5
             have HF5 : Hid (Ex w4.heap.size (some p) w4 w5) := Lib.hid (HF4.out.trans hex5 (by omega) (fun q h _ => h))
             have HE5 : Hid (Ex w3.heap.size (some p) w3 w5) := Lib.hid (HE4.out.trans HF5.out hz4 (fun q h _ => h))
             have hz5 : w4.heap.size ≤ w5.heap.size := hex5.size
             clear hd5 hex5)
          | (go_at_call 13
             refine (next_w N p 3 w5 H5.out (by omega) (by omega)).mono ?_
             rintro e w6 ⟨t3, rfl, ht3, hd6, hex6⟩
             have H6 : Hid (DiceOK N w6 p) := Lib.hid hd6
             have HF6 : Hid (Ex w4.heap.size (some p) w4 w6) := Lib.hid (HF5.out.trans hex6 (by omega) (fun q h _ => h))
             have HE6 : Hid (Ex w3.heap.size (some p) w3 w6) := Lib.hid (HE4.out.trans HF6.out hz4 (fun q h _ => h))
             have hz6 : w5.heap.size ≤ w6.heap.size := hex6.size
             clear hd6 hex6)
          | (go_at_call 11
             refine (draftM_w N p (a : Int) 3 w6 H6.out (by omega) (by omega) (by omega)).mono ?_
             rintro e w7 ⟨⟨y, rfl, hy0, hy1, hy2, hyl⟩, hd7, hex7⟩
             have H7 : Hid (DiceOK N w7 p) := Lib.hid hd7
             have HF7 : Hid (Ex w4.heap.size (some p) w4 w7) := Lib.hid (HF6.out.trans hex7 (by omega) (fun q h _ => h))
             have hz7 : w6.heap.size ≤ w7.heap.size := hex7.size
             have HY : Hid (y.1.list.length ≤ 100 ∧ y.1.pins = [] ∧ Lies (fun _ => True) w7 y) := Lib.hid ⟨hy1, hy2, hyl.mono fun _ _ _ => trivial⟩
             clear hd7 hex7 hy0 hy1 hy2 hyl)
          | (go_at_call 18
             refine (millV_any (P := fun _ => True) (a : Int) (n9 : Int) (t3 : Int) y w7 HY.out.2.2 ⟨by have := HY.out.1; omega, by rw [HY.out.2.1]; exact Nat.zero_le _⟩ (by rw [HY.out.2.1]; exact Nat.zero_le _) (by omega)).mono ?_
             rintro e w8 ⟨hm, hex8⟩
             obtain ⟨z, rfl, hz, hzl⟩ := millE_stE hm ⟨HY.out.1, by rw [HY.out.2.1]; exact Nat.zero_le _⟩
             have H8 : Hid (DiceOK N w8 p) := Lib.hid (H7.out.keep hex8 (by omega))
             have HF8 : Hid (Ex w4.heap.size (some p) w4 w8) := Lib.hid (HF7.out.trans hex8 (by omega) (by simp))
             have HE8 : Hid (Ex w3.heap.size (some p) w3 w8) := Lib.hid (HE4.out.trans HF8.out hz4 (fun q h _ => h))
             have hz8 : w7.heap.size ≤ w8.heap.size := hex8.size
             have HZ : Hid (z.1.list.length ≤ 100 ∧ z.1.pins.length ≤ 100) := Lib.hid hz
             have HZL : Hid (Lies (fun b => wr.heap.size ≤ b) w8 z) := Lib.hid (hzl.mono fun b hb _ => by have hb' : w7.heap.size ≤ b := hb; omega)
             have HO8 : Hid (OwnS w8 w3.heap.size ro rc l) := Lib.hid (HOr.out w8 HF8.out)
             clear hm hex8 hz hzl)
          | (at_builtin
             refine wpList_appT rfl (.tmp 23) (.tmp 33) _ (by rfl) Tryz.underlying29 Tryz.infoSt w3.heap.size w3.heap.size ro rc k l HN.out (by rfl) (some ⟨w8.heap.size, 0, none⟩) 1 1 (by rfl) [z] rfl (HO8.out.t.keep (Ex.new w8 _) (Nat.le_refl _)) (src_lit w8 z) (fun y hy => by rw [List.mem_singleton.1 hy]; exact (HZL.out.keep fun b _ hb => (Ex.new w8 _).block b hb (by simp)).mono fun b h _ => ⟨by omega, fun e => by have := HO.out.t.row b e; omega⟩) (by omega) (by simp; omega) (k + 1) (by omega) ?_
             intro ro2 rc2 w9 hown9 hex9 hk9 hr9
             have HO9 := Lib.hid hown9
             have HX9 : Hid (Ex w3.heap.size none w8 w9) := Lib.hid ((((Ex.refl w3.heap.size none w8).alloc (by omega) _)).thenBX hex9)
             have HD9 : Hid (DiceOK N w9 p) := Lib.hid (H8.out.keep HX9.out (by omega))
             have HE9 : Hid (Ex w3.heap.size (some p) w3 w9) := Lib.hid (HE8.out.trans HX9.out (Nat.le_refl _) (by simp))
             clear hown9 hex9 hk9 hr9)
          | fail)
        go_roundw
        case rel => exact ⟨c - 1, k + 1, ro2, rc2, l ++ [z.1], by go_num, by omega, rfl, Lib.hid (by rw [List.length_append, HN.out]; rfl), Lib.hid HO9.out, Lib.hid (fun s hs => by
          rcases List.mem_append.1 hs with h | h
          · exact HLI.out s h
          · rw [List.mem_singleton.1 h]; exact HZ.out), HD9.out, HE9.out⟩
        case measure => simp [intOf] <;> omega
    · have hltI : ¬ (0 : Int) < (c : Int) := by omega
      go_wp2
      go_ret
      exact ⟨⟨ro, rc, l, by rw [HN.out]; rfl, (Sl.at' (OwnS.sl HO.out)).mono (by decide) (fun _ _ _ => trivial), by rw [HN.out]; omega, HLI.out⟩, HD.out, HEW.out.trans HEX.out (by have := HEW.out.size; omega) (fun q h _ => h)⟩
end Go.Proofs.YtaihmldiglgipaaGreat

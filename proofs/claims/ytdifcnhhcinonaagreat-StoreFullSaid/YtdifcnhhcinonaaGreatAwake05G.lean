/- law05.awake. No statement of the seat. -/
import Derived.Test.YtdifcnhhcinonaaGreatMg11
import Derived.Test.YtdifcnhhcinonaaGreatSeal03G
namespace Go.Proofs.YtdifcnhhcinonaaGreat
open Go.RowKit Go.Sort
attribute [local go_sem ↓] rowLoad_stv rowStore_stv rowBuild_stv

theorem sealV {P : Nat → Prop} (x : St × Sv × Sv) (w : World) (hs : Lies P w x) (ht : Tame x.1) :
    Calls Tryz.prog 9 #[stV x] w fun e w' => ∃ y : St × Sv × Sv, e = .returned (stV y) ∧ y.1 = sealS x.1 ∧ Lies (fun b => w.heap.size ≤ b) w' y ∧ Ex w.heap.size none w w' := by
  obtain ⟨s, ⟨lo, ln, lc⟩, ⟨po, pn, pc⟩⟩ := x
  refine (seal03_any s lo po ln lc pn pc w hs ht).mono ?_
  rintro e w' ⟨la, na, ca, pa, np, cp, rfl, hl, hex⟩
  exact ⟨(sealS s, ⟨la, na, ca⟩, ⟨pa, np, cp⟩), rfl, rfl, hl, hex⟩
theorem lies_none {P : Nat → Prop} (w : World) (a i : Nat) (p : ByteArray) : Lies P w (baseL a i p, ⟨none, 0, 0⟩, ⟨none, 0, 0⟩) := ⟨⟨none, 0, rfl, SlAt.nil _ _ _⟩, ⟨none, 0, rfl, SlAt.nil _ _ _⟩⟩
theorem baseL_tame {a i : Nat} {p : ByteArray} (ha : a < 64) (hi : i < 200) (h0 : i = 0 → p = ⟨#[]⟩) (h1 : 0 < i → p.size = 32) : Tame (baseL a i p) := by
  have h := checkI_tame (baseL_check ha hi h0 h1)
  exact ⟨h.list, h.pins, h.prev, h.body, h.digs⟩
theorem sl_one {R : Rep St} {P : Nat → Prop} {w : World} {v : Value} {s : St} (h : Sl R P w v [s]) : ∃ ao cap, v = .slice ao 1 cap ∧ SlAt R P w ao [s] := h
theorem add_first {l' : List St} {u : Value} {c : Int} (h : AddV [] oneS l' u c) : l' = [oneS] ∧ u = .bool true ∧ c = 0 := by
  have h1 := okB_iff.1 oneS_ok
  rcases addV_new (validB_of (by decide) (fun s hs => by cases hs) List.Pairwise.nil) h1.2.1 h1.2.2 (fun y hy => by cases hy) h with ⟨h, _⟩ | ⟨_, k, rfl, rfl, rfl⟩
  · cases h
  · simp
theorem add_again {l' : List St} {u : Value} {c : Int} (h : AddV [oneS] oneS l' u c) : l' = [oneS] ∧ u = .bool false ∧ c = 0 := by
  have h1 := okB_iff.1 oneS_ok
  exact addV_old oneL_valid h1.2.1 h1.2.2 ⟨oneS, List.mem_singleton.2 rfl, cmpA_zero.2 ⟨rfl, rfl, rfl⟩⟩ h
theorem oneL_light : LightL 9223372036854775807 [oneS] := fun s hs => by rw [List.mem_singleton.1 hs]; exact ⟨by show (0 : Nat) ≤ _; omega, by show (0 : Nat) ≤ _; omega⟩

set_option maxHeartbeats 16000000 in
set_option maxRecDepth 100000 in
theorem awake05_any (w : World) : Calls Tryz.prog 12 #[] w fun e w' => e = .returned (.bool true) ∧ Ex w.heap.size none w w' := by
  go_enter Tryz.func12, Tryz.ntmps12
  go_upto_region 2 with (first
    | (go_at_call 9
       refine (sealV (P := fun _ => True) (baseL 1 0 ⟨#[]⟩, ⟨none, 0, 0⟩, ⟨none, 0, 0⟩) w (lies_none _ _ _ _) (baseL_tame (by decide) (by decide) (fun _ => rfl) (fun h => absurd h (by decide)))).mono ?_
       rintro e w1 ⟨y, rfl, hy, hly, hex⟩
       have HY : Hid (y.1 = oneS) := Lib.hid hy
       have HL1 := Lib.hid hly
       have HE1 := Lib.hid hex
       have hz1 : w.heap.size ≤ w1.heap.size := hex.size
       have hnew := stV_new w1 #[.int .i64 0, .int .i64 0, .string ⟨#[]⟩, .int .i64 0, .int .i64 0, .int .i64 0, .int .i64 0, .int .i64 0, .slice none 0 0, .slice none 0 0, .string ⟨#[]⟩, .int .i64 0, .string ⟨#[]⟩] y rfl
       clear hy hly hex)
    | fail)
  refine wp_world (fun W => W = w1.alloc (.cells (stV y).cells 28)) rfl (fun w2 hw2 => ?_)
  have HE2 : Hid (Ex w1.heap.size none w1 w2) := Lib.hid (by rw [hw2]; exact Ex.new w1 _)
  have hz2 : w2.heap.size = w1.heap.size + 1 := by rw [hw2]; simp
  have HQ2 : Hid (∀ w', Ex w2.heap.size none w2 w' → (rowLoad 28 ⟨w1.heap.size, 0, none⟩).run Tryz.prog w' = .ok (stV y) w') := Lib.hid (fun w' h => stV_box ((h.block w1.heap.size (by omega) (by simp)).trans (by rw [hw2]; exact heap_alloc_new w1 _)))
  have HLY : Hid (∀ w', Ex w2.heap.size none w2 w' → Lies (fun _ => True) w' y) := Lib.hid (fun w' h => (HL1.out.keep fun b _ hb => (h.block b (by omega) (by simp)).trans (HE2.out.block b hb (by simp))).mono fun _ _ _ => trivial)
  have HYL : Hid (y.1.list.length ≤ 9223372036854775807 ∧ y.1.pins.length ≤ 9223372036854775807) := Lib.hid (by rw [HY.out]; exact oneL_light _ (List.mem_singleton.2 rfl))
  clear hnew hw2
  have r1 := HQ2.out w2 (Ex.refl _ _ _)
  go_upto_region 3 with (first
    | (go_at_call 10
       refine (storeAdd_any (P := fun _ => True) none 0 0 [] y w2 rfl (SlAt.nil _ _ _) (by decide) (fun s hs => by cases hs) (HLY.out _ (Ex.refl _ _ _)) HYL.out).mono ?_
       rintro e w3 ⟨v', l', u, c, rfl, hadd, hsl, hex⟩
       rw [HY.out] at hadd
       obtain ⟨rfl, rfl, rfl⟩ := add_first hadd
       obtain ⟨a3, k3, rfl, hs3⟩ := sl_one hsl
       have HS3 : Hid (SlAt stRep (fun _ => True) w3 a3 [oneS]) := Lib.hid (hs3.mono (by decide) fun _ _ _ => trivial)
       have HE3 : Hid (Ex w2.heap.size none w2 w3) := Lib.hid hex
       have hz3 : w2.heap.size ≤ w3.heap.size := hex.size
       clear hadd hsl hs3 hex r1)
    | fail)
  refine wp_world (fun W => W = w3.alloc (.cells #[.slice a3 1 k3] 31)) rfl (fun w4 hw4 => ?_)
  have HE4 : Hid (Ex w2.heap.size none w2 w4) := Lib.hid (HE3.out.trans (by rw [hw4]; exact Ex.new w3 _) (by omega) (by simp))
  have hz4 : w4.heap.size = w3.heap.size + 1 := by rw [hw4]; simp
  have c4 : w4.cell? ⟨w3.heap.size, 0, none⟩ = some (.slice a3 1 k3) := by rw [hw4]; exact box_cell (heap_alloc_new w3 _)
  have HS4 : Hid (SlAt stRep (fun _ => True) w4 a3 [oneS]) := Lib.hid (HS3.out.keep (by decide) fun b _ hb => by rw [hw4]; exact (Ex.new w3 _).block b hb (by simp))
  have r4 := HQ2.out w4 HE4.out
  clear hw4
  go_upto_region 4 with (first
    | (go_at_call 10
       refine (storeAdd_any (P := fun _ => True) a3 1 k3 [oneS] y w4 rfl HS4.out (by decide) oneL_light (HLY.out _ HE4.out) HYL.out).mono ?_
       rintro e w5 ⟨v', l', u, c, rfl, hadd, hsl, hex⟩
       rw [HY.out] at hadd
       obtain ⟨rfl, rfl, rfl⟩ := add_again hadd
       obtain ⟨a5, k5, rfl, hs5⟩ := sl_one hsl
       have HS5 : Hid (SlAt stRep (fun _ => True) w5 a5 [oneS]) := Lib.hid (hs5.mono (by decide) fun _ _ _ => trivial)
       have HE5 : Hid (Ex w2.heap.size none w2 w5) := Lib.hid (HE4.out.trans hex HE4.out.size (by simp))
       have hz5 : w2.heap.size ≤ w5.heap.size := HE5.out.size
       clear hadd hsl hs5 hex r4 c4)
    | fail)
  refine wp_world (fun W => W = w5.alloc (.cells #[.slice a5 1 k5] 31)) rfl (fun w6 hw6 => ?_)
  have HE6 : Hid (Ex w2.heap.size none w2 w6) := Lib.hid (HE5.out.trans (by rw [hw6]; exact Ex.new w5 _) (by omega) (by simp))
  have hz6 : w6.heap.size = w5.heap.size + 1 := by rw [hw6]; simp
  have HQ6 : Hid (∀ w', Ex w6.heap.size none w6 w' → w'.cell? ⟨w5.heap.size, 0, none⟩ = some (.slice a5 1 k5)) := Lib.hid (fun w' h => box_cell ((h.block w5.heap.size (by omega) (by simp)).trans (by rw [hw6]; exact heap_alloc_new w5 _)))
  have HS6 : Hid (∀ w', Ex w6.heap.size none w6 w' → SlAt stRep (fun _ => True) w' a5 [oneS]) := Lib.hid (fun w' h => HS5.out.keep (by decide) fun b _ hb => (h.block b (by omega) (by simp)).trans (by rw [hw6]; exact (Ex.new w5 _).block b hb (by simp)))
  clear hw6
  have c6 := HQ6.out w6 (Ex.refl _ _ _)
  go_wp2_with (first
    | (go_at_call 56
       refine (pinsP_any a5 k5 1 [oneS] w6 rfl (HS6.out _ (Ex.refl _ _ _)) (by decide) oneL_light).mono ?_
       rintro e w7 ⟨po, pc, n, ps, rfl, hn, hps, hsp, hex⟩
       have hps1 := pinsR_one hps
       subst hps1
       have hn1 : n = 1 := hn
       subst hn1
       have HP7 := Lib.hid hsp
       have HE7 := Lib.hid hex
       have hz7 : w6.heap.size ≤ w7.heap.size := hex.size
       clear hn hps hsp hex c6
       have c7 := HQ6.out w7 HE7.out)
    | (go_at_call 57
       refine (pinnedP_any a5 k5 1 [oneS] po pc 1 [(1, 1, oneS.dig)] w7 rfl (HS6.out _ HE7.out) (by decide) oneL_light rfl HP7.out (by decide) (fun p hp => by rw [List.mem_singleton.1 hp]; show oneS.dig.size ≤ maxLen; rw [oneS_dig]; decide)).mono ?_
       rintro e w8 ⟨u8, c8, rfl, hpv, hex⟩
       obtain ⟨rfl, ro8, rc8, rfl⟩ := pinned_one hpv
       have HE8 : Hid (Ex w6.heap.size none w6 w8) := Lib.hid (HE7.out.trans hex hz7 (by simp))
       clear hpv hex c7
       have c8 := HQ6.out w8 HE8.out)
    | (go_at_call 46
       refine (asB (storeValid_any (P := fun _ => True) (.slice a5 1 k5) [oneS] w8 ⟨a5, k5, rfl, HS6.out _ HE8.out⟩ (by decide) oneL_light) oneL_valid).mono ?_
       rintro e w9 ⟨rfl, hex⟩
       have HE9 : Hid (Ex w6.heap.size none w6 w9) := Lib.hid (HE8.out.trans hex HE8.out.size (by simp))
       clear hex c8
       have c9 := HQ6.out w9 HE9.out)
    | (go_at_call 58
       refine (heightP_any a5 k5 1 [oneS] 1 w9 rfl (HS6.out _ HE9.out) (by decide) oneL_light).mono ?_
       rintro e w10 ⟨ls, hls, rfl, hex⟩
       have hls1 := linksR_one hls
       subst hls1
       rw [countN_one]
       have HE10 : Hid (Ex w6.heap.size none w6 w10) := Lib.hid (HE9.out.trans hex HE9.out.size (by simp))
       clear hls hex c9
       have c10 := HQ6.out w10 HE10.out)
    | fail)
  go_ret
  exact ⟨rfl, (HE1.out.trans HE2.out hz1 (by simp)).trans (HE6.out.trans HE10.out (by omega) (by simp)) (by omega) (by simp)⟩
end Go.Proofs.YtdifcnhhcinonaaGreat

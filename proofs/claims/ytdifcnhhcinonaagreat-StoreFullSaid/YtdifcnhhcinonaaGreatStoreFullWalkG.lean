/- law05.StoreFull: the walk. No statement of the seat. -/
import Derived.Test.YtdifcnhhcinonaaGreatAwake05G
import Derived.Deep.RegionHeld3
import Derived.Deep.Cut
import Derived.Deep.CutRange
namespace Go.Proofs.YtdifcnhhcinonaaGreat
open Go.RowKit Go.Sort
attribute [local go_sem ↓] rowLoad_stv rowStore_stv rowBuild_stv
attribute [local go_sem ↓ high] builtin_appR

theorem Ex.andThen' {a b c : World} (h : Ex a.heap.size none a b) (k : Ex b.heap.size none b c) : Ex a.heap.size none a c := h.trans k h.size (by simp)
theorem fullAt_of {a i : Nat} (hi : i < 200) : fullAt (200 * a + i) = fullS a i := by
  unfold fullAt
  rw [show (200 * a + i) / 200 = a by omega, show (200 * a + i) % 200 = i by omega]

/-- What is read does not lie in a box whose one cell is no number. -/
theorem SlAt.ne {α : Type} {r : Rep α} {P : Nat → Prop} {w : World} {ao : Option Addr} {xs : List α} {g : Nat} {v0 : Value} {t : TypeId} {fr : Nat × Nat} (h : SlAt r P w ao xs) (hg : w.heap[g]? = some (.cells #[v0] t fr))
    (hn : ∀ cs x, r.R P w cs x → ∃ v, cs[0]? = some v ∧ v ≠ v0) (hR : ∀ cs x, r.R P w cs x → r.R (fun b => P b ∧ b ≠ g) w cs x) : SlAt r (fun b => P b ∧ b ≠ g) w ao xs := by
  intro i hi
  obtain ⟨b, off, cs, e, hp, hr, hx⟩ := h i hi
  refine ⟨b, off, cs, e, ⟨hp, fun hb => ?_⟩, hr, hR _ _ hx⟩
  subst hb
  obtain ⟨v, hv, hne⟩ := hn _ _ hx
  have h1 := hr 0 v hv
  rw [cell_of_row _ _ _ _ _ _ hg] at h1
  cases hk : off + i * r.k + 0 with
  | zero => rw [hk] at h1; simp at h1; exact hne h1.symm
  | succ n => rw [hk] at h1; simp at h1
theorem sts_ne {P : Nat → Prop} {w : World} {ao : Option Addr} {xs : List St} {g : Nat} {v0 : Value} {t : TypeId} {fr : Nat × Nat} (h : SlAt stRep P w ao xs) (hg : w.heap[g]? = some (.cells #[v0] t fr)) (hn : ∀ n : Int, Value.int .i64 n ≠ v0) : SlAt stRep (fun b => P b ∧ b ≠ g) w ao xs := by
  refine h.ne hg (fun cs s hs => ?_) (fun cs s hs => ?_)
  · obtain ⟨l, p, rfl, _⟩ := hs
    exact ⟨_, rfl, hn _⟩
  · obtain ⟨l, p, rfl, h1, h2⟩ := hs
    obtain ⟨a1, k1, e1, h1⟩ := h1
    obtain ⟨a2, k2, e2, h2⟩ := h2
    refine ⟨l, p, rfl, ⟨a1, k1, e1, h1.ne hg (fun cs x hx => ?_) (fun _ _ hx => hx)⟩, ⟨a2, k2, e2, h2.ne hg (fun cs x hx => ?_) (fun _ _ hx => hx)⟩⟩
    · rw [show cs = _ from hx]; exact ⟨_, rfl, hn _⟩
    · rw [show cs = _ from hx]; exact ⟨_, rfl, hn _⟩
theorem alloc_two (w : World) (o1 o2 : Obj) : ((w.alloc o1).alloc o2).heap[w.heap.size + 1]? = some o2 ∧ ((w.alloc o1).alloc o2).heap[w.heap.size]? = some o1 := by
  have e1 := heap_alloc_new w o1
  have e2 := heap_alloc_new (w.alloc o1) o2
  simp only [World.size_alloc] at e2
  exact ⟨e2, ((Ex.new (w.alloc o1) o2).block w.heap.size (by simp) (by simp)).trans e1⟩
theorem box_twoD {w w' : World} {o1 o2 : Obj} (h : Ex ((w.alloc o1).drew.alloc o2).heap.size none ((w.alloc o1).drew.alloc o2) w') : w'.heap[w.heap.size + 1]? = some o2 ∧ w'.heap[w.heap.size]? = some o1 :=
  ⟨(h.block _ (by simp) (by simp)).trans (alloc_two w o1 o2).1, (h.block _ (by simp; omega) (by simp)).trans (alloc_two w o1 o2).2⟩
/-- What region 17 has made. -/
def GapOf (w3 : World) (p : Value) (W : World) : Prop := ∃ g a k, p = .pointer (some ⟨g, 0, none⟩) ∧ (W.heap[g]? = some (.cells #[.slice a 999 k] 31 (0, 0)) ∧ SlAt stRep (fun _ => True) W a gapL) ∧ Ex w3.heap.size none w3 W
theorem gap_set {w3 W : World} {g rb : Nat} {a : Option Addr} {k : Nat} (hb : W.heap[g]? = some (.cells #[.slice none 0 0] 31 (0, 0))) (hg : w3.heap.size ≤ g) (hx : Ex w3.heap.size none w3 W) (hs : OwnT W rb 0 a k gapL) :
    GapOf w3 (.pointer (some ⟨g, 0, none⟩)) (W.setCell ⟨g, 0, none⟩ (.slice a 999 k)) := by
  refine ⟨g, a, k, rfl, ⟨?_, ?_⟩, hx.setCell 0 none _ (.inr hg)⟩
  · rw [heap_setCell_same _ _ _ _ _ _ hb]; rfl
  · exact ((sts_ne (hs.s (Nat.zero_le _)).atW hb (fun n h => by cases h)).keep (by decide) fun b hb' _ => Below.heap_setCell _ _ _ _ hb'.2).mono (by decide) fun _ _ _ => trivial
theorem gap_new {w3 W : World} {rb : Nat} {a : Option Addr} {k : Nat} (hx : Ex w3.heap.size none w3 W) (hs : OwnT W rb 0 a k gapL) :
    GapOf w3 (.pointer (some ⟨W.heap.size, 0, none⟩)) (W.alloc (.cells #[.slice a 999 k] 31)) := by
  refine ⟨W.heap.size, a, k, rfl, ⟨heap_alloc_new W _, ?_⟩, hx.alloc hx.size _⟩
  exact ((hs.s (Nat.zero_le _)).atW.keep (by decide) fun b _ hb => (Ex.new W _).block b hb (by simp)).mono (by decide) fun _ _ _ => trivial

set_option maxHeartbeats 16000000 in
set_option maxRecDepth 100000 in
theorem storeFull_walk (w : World) : Calls Tryz.prog 3 #[] w fun e w' => e = .returned (.bool true) ∧ Ex w.heap.size none w w' := by
  go_enter Tryz.func3, Tryz.ntmps3
  go_upto_region 3 with (fail)
  go_loopw [1, 2] (fun v i wr => ∃ (a n : Nat) (ro : Option Addr) (rc : Nat), a ≤ 5 ∧ n = 200 * a ∧ i = .int .i64 a ∧ v = .slice ro n rc ∧ Hid (OwnS wr w.heap.size ro rc (fullL n)) ∧ Ex w.heap.size none w wr) (fun _ i _ => 5 - (intOf i).toNat)
  case atStart => exact ⟨0, 0, none, 0, by omega, rfl, rfl, rfl, Lib.hid (OwnS.nil _ _), Ex.refl _ _ _⟩
  case round =>
    obtain ⟨a, n, ro, rc, ha, hna, rfl, rfl, HO, hex0⟩ := hrel
    have hsz0 := hex0.size
    have HER := Lib.hid hex0
    clear hex0
    by_cases hlt : a < 5
    · have hltI : (a : Int) < (5 : Int) := by omega
      go_upto_region 7 with (fail)
      go_loopw [1, 3, 4] (fun v p i ws => ∃ (k m : Nat) (so : Option Addr) (sc : Nat), k ≤ 200 ∧ m = n + k ∧ i = .int .i64 k ∧ p = .string (prevL a k) ∧ v = .slice so m sc ∧ Hid (OwnS ws w.heap.size so sc (fullL m)) ∧ Ex w.heap.size none w ws) (fun _ _ i _ => 200 - (intOf i).toNat)
      case atStart => exact ⟨0, n, ro, rc, by omega, by omega, rfl, rfl, rfl, HO, HER.out⟩
      case round =>
        obtain ⟨k, m, so, sc, hk, hmn, rfl, rfl, rfl, HOS, hex1⟩ := hrel
        have hsz1 := hex1.size
        have HES := Lib.hid hex1
        clear hex1
        by_cases hlk : k < 200
        · have hlkI : (k : Int) < (200 : Int) := by omega
          have HMN := Lib.hid hmn
          have hm1 : m ≤ 1000 := by omega
          obtain ⟨pv, hpv⟩ : ∃ pv, pv = prevL a k := ⟨_, rfl⟩
          rw [← hpv]
          have HPV := Lib.hid hpv
          clear hpv hmn
          go_upto_region 10 with (first
            | (go_at_call 9
               refine (sealV (P := fun _ => True) (baseL a k pv, ⟨none, 0, 0⟩, ⟨none, 0, 0⟩) wr (lies_none _ _ _ _) (baseL_tame (by omega) hlk (fun h => HPV.out.trans (by subst h; exact rfl)) (fun h => by rw [HPV.out]; exact prevL_size _ _ h))).mono ?_
               rintro e w1 ⟨y, rfl, hy, hly, hex⟩
               have HY : Hid (y.1 = fullS a k) := Lib.hid (by rw [hy, HPV.out]; rfl)
               have HL1 := Lib.hid hly
               have HE1 := Lib.hid hex
               have hz1 : wr.heap.size ≤ w1.heap.size := hex.size
               have hnew := stV_new w1 #[.int .i64 0, .int .i64 0, .string ⟨#[]⟩, .int .i64 0, .int .i64 0, .int .i64 0, .int .i64 0, .int .i64 0, .slice none 0 0, .slice none 0 0, .string ⟨#[]⟩, .int .i64 0, .string ⟨#[]⟩] y rfl
               clear hy hly hex)
            | fail)
          refine wp_world (fun W => W = w1.alloc (.cells (stV y).cells 28)) rfl (fun w3 hw3 => ?_)
          have HE3 : Hid (Ex wr.heap.size none wr w3) := Lib.hid (HE1.out.trans (by rw [hw3]; exact Ex.new w1 _) (by omega) (by simp))
          have hz3 : wr.heap.size ≤ w3.heap.size := HE3.out.size
          have hb3 : w3.heap[w1.heap.size]? = some (.cells (stV y).cells 28 (0, 0)) := by rw [hw3]; exact heap_alloc_new w1 _
          have HL3 : Hid (Lies (fun b => wr.heap.size ≤ b) w3 y) := Lib.hid (HL1.out.keep fun b _ hb => by rw [hw3]; exact (Ex.new w1 _).block b hb (by simp))
          have r3 := stV_box hb3
          have d3 : w3.cell? ⟨w1.heap.size, 12, none⟩ = some (.string y.1.dig) := by rw [cell_of_row _ _ _ _ _ _ hb3]; rfl
          have hlit := stV_lit w3 y
          clear hnew hw3 hb3
          go_wp2_with (at_builtin; refine wpList_appT rfl (.tmp 36) (.tmp 38) _ (by rfl) Tryz.underlying22 Tryz.infoSt w.heap.size w.heap.size so sc m (fullL m) (fullL_len m) (by rfl) (some ⟨w3.heap.size, 0, none⟩) 1 1 (by rfl) [y] rfl (HOS.out.t.keep (HE3.out.trans (Ex.new w3 _) (by omega) (by simp)) (Nat.le_refl _)) (lit_cells (by rfl)) (fun z hz => by
            rw [List.mem_singleton.1 hz]
            exact ((HL3.out.mono fun b hb hlt => (⟨hb, hlt⟩ : wr.heap.size ≤ b ∧ b < w3.heap.size)).keep fun b hb _ => (Ex.new w3 _).block b hb.2 (by simp)).mono fun b hb _ => ⟨by omega, fun e => by have := OwnT.row HOS.out.t b e; omega⟩) (by omega) (by simp; omega) (m + 1) rfl ?_; intro ro2 rc2 w8 hown8 hex8 _ _)
          have HO8 : Hid (OwnS w8 w.heap.size ro2 rc2 (fullL (m + 1))) := Lib.hid (by
            have h := hown8.s (Nat.le_refl _)
            rw [List.map_singleton, HY.out, ← fullAt_of hlk] at h
            rw [fullL_succ, show m = 200 * a + k by have := HMN.out; omega]
            rw [show m = 200 * a + k by have := HMN.out; omega] at h
            exact h)
          have HE8 : Hid (Ex w.heap.size none w w8) := Lib.hid (((HES.out.trans HE3.out hsz1 (by simp)).trans (Ex.new w3 _) (by omega) (by simp)).trans hex8 (Nat.le_refl _) (by simp))
          clear hown8 hex8 r3 d3 hlit
          go_roundw
          case rel => exact ⟨k + 1, m + 1, ro2, rc2, by omega, by have := HMN.out; omega, by go_num, by rw [HY.out]; rfl, rfl, HO8, HE8.out⟩
          case measure => simp [intOf] <;> omega
        · obtain rfl : k = 200 := by omega
          go_wp2
          go_roundw
          case rel => exact ⟨a + 1, m, so, sc, by omega, by omega, by go_num, rfl, HOS, HES.out⟩
          case measure => simp [intOf] <;> omega
    · obtain rfl : a = 5 := by omega
      have hn1 : n = 1000 := by omega
      subst hn1
      obtain ⟨L, hL⟩ : ∃ L, L = fullL 1000 := ⟨_, rfl⟩
      rw [← hL] at HO
      have HLF := Lib.hid hL
      have HLN : Hid (L.length = 1000) := Lib.hid (by rw [hL]; exact fullL_len _)
      have HLG : Hid (L[777]? = some (fullAt 777)) := Lib.hid (by rw [hL]; exact fullL_get (by decide))
      have HLV : Hid (validB L = true) := Lib.hid (by rw [hL]; exact fullL_valid (Nat.le_refl _))
      have HLL : Hid (LightL 9223372036854775807 L) := Lib.hid (fun s hs => by have := validB_light HLV.out s hs; omega)
      clear hL hna ha
      have HSL : Hid (∀ w', Ex wr.heap.size none wr w' → SlAt stRep (fun _ => True) w' ro L) := Lib.hid (fun w' h => (HO.out.atW.keep (by decide) fun b _ hb => h.block b hb (by simp)).mono (by decide) fun _ _ _ => trivial)
      obtain ⟨b, off, z, hao, _, hbl, hz, hlz, HLD⟩ := stv_get (HSL.out wr (Ex.refl _ _ _)) 777 (by rw [HLN.out]; decide)
      have HAO := Lib.hid hao
      subst hao
      have HZ : Hid (z.1 = fullAt 777) := Lib.hid (by have := hz.out; rw [HLG.out] at this; exact (Option.some.inj this).symm)
      have HLZ := Lib.hid hlz
      clear hz hlz
      go_upto_region 14 with (fail)
      refine wp_world (fun W => W = wr.alloc (.cells #[.slice (some ⟨b, off, none⟩) 1000 rc] 31)) rfl (fun w1 hw1 => ?_)
      have HE1 : Hid (Ex wr.heap.size none wr w1) := Lib.hid (by rw [hw1]; exact Ex.new wr _)
      have HW1 := Lib.hid hw1
      have HC1 : Hid (w1.heap[wr.heap.size]? = some (.cells #[.slice (some ⟨b, off, none⟩) 1000 rc] 31 (0, 0))) := Lib.hid (by rw [hw1]; exact heap_alloc_new wr _)
      have HZ1 : Hid (w1.heap.size = wr.heap.size + 1) := Lib.hid (by rw [hw1]; simp)
      clear hw1
      go_upto_region 15 with (first
        | (go_at_call 9
           refine (sealV (P := fun _ => True) (baseL 7 0 ⟨#[]⟩, ⟨none, 0, 0⟩, ⟨none, 0, 0⟩) w1 (lies_none _ _ _ _) (baseL_tame (by decide) (by decide) (fun _ => rfl) (fun h => absurd h (by decide)))).mono ?_
           rintro e w2 ⟨y, rfl, hy, hly, hex⟩
           have HY : Hid (y.1 = fullS 7 0) := Lib.hid hy
           have HL2 := Lib.hid hly
           have HE2 := Lib.hid hex
           have hnew := stV_new w2 #[.int .i64 0, .int .i64 0, .string ⟨#[]⟩, .int .i64 0, .int .i64 0, .int .i64 0, .int .i64 0, .int .i64 0, .slice none 0 0, .slice none 0 0, .string ⟨#[]⟩, .int .i64 0, .string ⟨#[]⟩] y rfl
           clear hy hly hex)
        | fail)
      refine wp_world (fun W => W = w2.alloc (.cells (stV y).cells 28)) rfl (fun w3 hw3 => ?_)
      have HZ2 : Hid (wr.heap.size + 1 ≤ w2.heap.size) := Lib.hid (by have h1 := HE2.out.size; have h2 := HZ1.out; omega)
      have HE3 : Hid (Ex wr.heap.size none wr w3) := Lib.hid ((HE1.out.trans HE2.out (by have := HZ1.out; omega) (by simp)).trans (by rw [hw3]; exact Ex.new w2 _) (by have := HZ2.out; omega) (by simp))
      have HZ3 : Hid (w3.heap.size = w2.heap.size + 1) := Lib.hid (by rw [hw3]; simp)
      have HQ : Hid (∀ w', Ex w3.heap.size none w3 w' → w'.cell? ⟨wr.heap.size, 0, none⟩ = some (.slice (some ⟨b, off, none⟩) 1000 rc) ∧ (rowLoad 28 ⟨w2.heap.size, 0, none⟩).run Tryz.prog w' = .ok (stV y) w' ∧ (rowLoad 28 ⟨b, off + 777 * 13, none⟩).run Tryz.prog w' = .ok (stV z) w') := Lib.hid (fun w' h => by
        have z1 := HZ1.out; have z2 := HZ2.out; have z3 := HZ3.out
        have k3 : ∀ q, q < w2.heap.size → w3.heap[q]? = w2.heap[q]? := fun q hq => by rw [hw3]; exact (Ex.new w2 _).block q hq (by simp)
        have kq : ∀ q, q < wr.heap.size + 1 → w'.heap[q]? = w1.heap[q]? := fun q hq => (h.block q (by omega) (by simp)).trans ((k3 q (by omega)).trans (HE2.out.block q (by omega) (by simp)))
        exact ⟨box_cell ((kq wr.heap.size (by omega)).trans HC1.out), stV_box ((h.block w2.heap.size (by omega) (by simp)).trans (by rw [hw3]; exact heap_alloc_new w2 _)), HLD.out w' ((kq b (by omega)).trans (HE1.out.block b hbl (by simp)))⟩)
      have HLY : Hid (∀ w', Ex w3.heap.size none w3 w' → Lies (fun _ => True) w' y) := Lib.hid (fun w' h => (HL2.out.keep fun q _ hq => (h.block q (by have := HZ3.out; omega) (by simp)).trans (by rw [hw3]; exact (Ex.new w2 _).block q hq (by simp))).mono fun _ _ _ => trivial)
      have HSW : Hid (∀ w', Ex w3.heap.size none w3 w' → SlAt stRep (fun _ => True) w' (some ⟨b, off, none⟩) L ∧ Lies (fun _ => True) w' z) := Lib.hid (fun w' h => by
        have h1 := HE3.out.trans h (by have := HZ3.out; have := HZ2.out; omega) (by simp)
        exact ⟨HSL.out w' h1, (HLZ.out.keep fun q _ hq => h1.block q hq (by simp)).mono fun _ _ _ => trivial⟩)
      have HYL : Hid (y.1.list.length ≤ 9223372036854775807 ∧ y.1.pins.length ≤ 9223372036854775807) := Lib.hid (by rw [HY.out]; exact ⟨by show (0 : Nat) ≤ _; omega, by show (0 : Nat) ≤ _; omega⟩)
      have HZL : Hid (z.1.list.length ≤ 9223372036854775807 ∧ z.1.pins.length ≤ 9223372036854775807) := Lib.hid (by rw [HZ.out]; exact ⟨by show (0 : Nat) ≤ _; omega, by show (0 : Nat) ≤ _; omega⟩)
      clear hnew hw3 hbl
      have hix : (777 : Int) < 1000 := by omega
      obtain ⟨q1, q2, q3⟩ := HQ.out w3 (Ex.refl _ _ _)
      have HADD : Hid (∀ W, Ex w3.heap.size none w3 W → Calls Tryz.prog 10 #[.agg #[.slice (some ⟨b, off, none⟩) 1000 rc], stV z] W fun e w' => ∃ a4 n4 k4, e = .returned (.tuple #[.agg #[.slice a4 n4 k4], .bool false, .int .i64 0]) ∧ Ex W.heap.size none W w') := Lib.hid (fun W h => by
        refine (storeAdd_any (P := fun _ => True) (some ⟨b, off, none⟩) 1000 rc L z W HLN.out (HSW.out W h).1 (by decide) HLL.out (HSW.out W h).2 HZL.out).mono ?_
        rintro e w4 ⟨v4, l4, u4, c4, rfl, hadd, hsl, hex⟩
        rw [HZ.out] at hadd
        obtain ⟨_, hu4, hc4⟩ := addV_old HLV.out (fullL_mem (Nat.le_refl _) _ (List.mem_of_getElem? (HLF.out ▸ HLG.out))).1 (fullS_sealed _ _) ⟨_, List.mem_of_getElem? HLG.out, cmpA_zero.2 ⟨rfl, rfl, rfl⟩⟩ hadd
        subst hu4
        subst hc4
        obtain ⟨a4, k4, rfl, _⟩ := hsl
        exact ⟨a4, _, k4, rfl, hex⟩)
      go_cut [9, 10, 11] from 44 to 53 (fun p u c W => (∃ g, p = .pointer (some ⟨g, 0, none⟩)) ∧ u = .bool false ∧ c = .int .i64 0 ∧ Ex w3.heap.size none w3 W)
      case first =>
        go_region_held3 (fun w' => w'.cell? ⟨wr.heap.size, 0, none⟩ = some (.slice (some ⟨b, off, none⟩) 1000 rc) ∧ (rowLoad 28 ⟨w2.heap.size, 0, none⟩).run Tryz.prog w' = .ok (stV y) w' ∧ (rowLoad 28 ⟨b, off + 777 * 13, none⟩).run Tryz.prog w' = .ok (stV z) w') (first | exact HQ.out _ HE4.out | exact HQ.out _ (HE4.out.alloc HE4.out.size _) | exact HQ.out _ ((HE4.out.alloc HE4.out.size _).setCell 0 none _ (.inr HE4.out.size)) | exact HQ.out _ (HE4.out.setCell 0 none _ (.inr (Nat.le_refl _))) | exact HQ.out _ (Ex.refl _ _ _ : Ex w3.heap.size none w3 w3) | exact HQ.out _ (Ex.refl _ _ _ : Ex w3.heap.size none w3 w3).drew | exact HQ.out _ ((Ex.refl _ _ _ : Ex w3.heap.size none w3 w3).alloc (Nat.le_refl _) _) | exact HQ.out _ ((Ex.refl _ _ _ : Ex w3.heap.size none w3 w3).alloc (Nat.le_refl _) _).drew | exact HQ.out _ ((Ex.refl _ _ _ : Ex w3.heap.size none w3 w3).drew.alloc (Nat.le_refl _) _))
          (first
            | (go_at_call 10
               refine (HADD.out _ (by first | exact (Ex.refl _ _ _ : Ex w3.heap.size none w3 w3) | exact (Ex.refl _ _ _ : Ex w3.heap.size none w3 w3).drew | exact ((Ex.refl _ _ _ : Ex w3.heap.size none w3 w3).alloc (Nat.le_refl _) _) | exact ((Ex.refl _ _ _ : Ex w3.heap.size none w3 w3).alloc (Nat.le_refl _) _).drew | exact ((Ex.refl _ _ _ : Ex w3.heap.size none w3 w3).drew.alloc (Nat.le_refl _) _))).mono ?_
               rintro e w4 ⟨a4, n4, k4, rfl, hex⟩
               have HE4 : Hid (Ex w3.heap.size none w3 w4) := Lib.hid (Ex.andThen' (by first | exact (Ex.refl _ _ _ : Ex w3.heap.size none w3 w3) | exact (Ex.refl _ _ _ : Ex w3.heap.size none w3 w3).drew | exact ((Ex.refl _ _ _ : Ex w3.heap.size none w3 w3).alloc (Nat.le_refl _) _) | exact ((Ex.refl _ _ _ : Ex w3.heap.size none w3 w3).alloc (Nat.le_refl _) _).drew | exact ((Ex.refl _ _ _ : Ex w3.heap.size none w3 w3).drew.alloc (Nat.le_refl _) _)) hex)
               try (
                 have hb9 : w4.heap[w3.heap.size]? = some (.cells #[.slice none 0 0] 31 (0, 0)) := (hex.block w3.heap.size (by simp) (by simp)).trans (heap_alloc_new w3 _)
                 have c9 := box_cell hb9
                 have z9 := row_frz' hb9 0
                 clear hb9)
               clear hex q1 q2 q3
               obtain ⟨q1, q2, q3⟩ := HQ.out w4 HE4.out)
            | fail)
        all_goals
          go_wp2_with (fail)
          go_meet
          exact ⟨⟨_, rfl⟩, rfl, rfl, by first | exact HE4.out | exact (HE4.out.alloc HE4.out.size _) | exact ((HE4.out.alloc HE4.out.size _).setCell 0 none _ (.inr HE4.out.size)) | exact (HE4.out.setCell 0 none _ (.inr (Nat.le_refl _)))⟩
      case rest =>
        rename World => w6
        obtain ⟨⟨g9, rfl⟩, rfl, rfl, hex6⟩ := hcut
        have HE6 := Lib.hid hex6
        clear hex6 q1 q2 q3
        obtain ⟨q1, q2, q3⟩ := HQ.out w6 HE6.out
        go_upto_region 17 with (first
          | (go_at_call 10
             refine (storeAdd_any (P := fun _ => True) (some ⟨b, off, none⟩) 1000 rc L y w6 HLN.out (HSW.out w6 HE6.out).1 (by decide) HLL.out (HLY.out w6 HE6.out) HYL.out).mono ?_
             rintro e w7 ⟨v7, l7, u7, c7, rfl, hadd, hsl, hex⟩
             have hfull : u7 = .bool false ∧ c7 = 3 := by
               rw [HY.out] at hadd
               rcases addV_new HLV.out (fullS_check (by decide) (by decide)) (fullS_sealed _ _) (by rw [HLF.out]; exact fullL_other (Nat.le_refl _) (by decide)) hadd with ⟨_, _, h1, h2⟩ | ⟨h, _⟩
               · exact ⟨h1, h2⟩
               · rw [HLN.out] at h; exact absurd h (by decide)
             obtain ⟨rfl, rfl⟩ := hfull
             obtain ⟨a7, k7, rfl, _⟩ := hsl
             have HE7 : Hid (Ex w3.heap.size none w3 w7) := Lib.hid (HE6.out.andThen' hex)
             clear hadd hex q1 q2 q3)
          | fail)
        refine wp_world (fun W => W = w7.alloc (.cells #[.slice a7 l7.length k7] 31)) rfl (fun w8 hw8 => ?_)
        have HE8 : Hid (Ex w3.heap.size none w3 w8) := Lib.hid (HE7.out.trans (by rw [hw8]; exact Ex.new w7 _) HE7.out.size (by simp))
        clear hw8
        have hrc : 1000 ≤ rc := by have := OwnT.len HO.out.t; rw [HLN.out] at this; exact this
        have hrcI : (1000 : Int) ≤ (rc : Int) := by omega
        have hrA : 777 ≤ rc := by omega
        have hrAI : (777 : Int) ≤ (rc : Int) := by omega
        have hrB : 778 ≤ rc := by omega
        have hrBI : (778 : Int) ≤ (rc : Int) := by omega
        have hrC : ¬ rc = 778 := by omega
        have hwr : IntKind.i64.wrap (777 + 1) = 778 := by decide
        have hwr2 : IntKind.i64.wrap 778 = 778 := by decide
        obtain ⟨xs, hxm, hxl, hxs⟩ := st_src (HSW.out w8 HE8.out).1
        have hxn : xs.length = 1000 := by rw [← HLN.out, ← hxm, List.length_map]
        have HXM : Hid (xs.map (·.1) = L ∧ xs.length = 1000) := Lib.hid ⟨hxm, hxn⟩
        have HXL : Hid (∀ W, Ex w8.heap.size none w8 W → ∀ x ∈ xs, Lies (fun q => q < w8.heap.size) W x) := Lib.hid (fun W h x hx => ((hxl x hx).mono fun q _ hq => hq).keep fun q _ hq => h.block q hq (by simp))
        have HSC : Hid (∀ W, Ex w8.heap.size none w8 W → ∀ (j : Nat) (v : Value), (flatL stE xs)[j]? = some v → W.cell? ⟨b, off + j, none⟩ = some v) := Lib.hid (fun W h j v hj => by
          rcases Src.keep (w' := W) hxs (fun q _ hq => h.block q hq (by simp)) with h0 | ⟨ad, e, h1⟩
          · omega
          · cases e
            have := h1 j v hj
            rwa [Addr.add_lit] at this)
        clear hxm hxl hxs hxn
        have HA1 : Hid (∀ W, Ex w8.heap.size none w8 W → ∃ a1 k1 W', (appR #[22, 22] 22 #[.slice none 0 0, .slice (some ⟨b, off, none⟩) 777 rc]).run Tryz.prog W = .ok (.slice a1 777 k1) W' ∧ OwnT W' w8.heap.size 0 a1 k1 (L.take 777) ∧ Ex w8.heap.size none W W' ∧ ∀ q, q < W.heap.size → W'.heap[q]? = W.heap[q]?) := Lib.hid (fun W h => by
          obtain ⟨a1, k1, W', h1, h2, h3, h4⟩ := run_appMany (w := W) w8.heap.size 0 none 0 0 [] rfl ⟨b, off, none⟩ 777 rc (xs.take 777) (by rw [List.length_take, HXM.out.2]; rfl) (OwnT.nil _ _ _) (fun j v hj => by
            rw [Addr.add_lit]
            refine HSC.out W h j v ?_
            rw [flatL_cut xs 777, List.getElem?_append_left (List.getElem?_eq_some_iff.1 hj).1]
            exact hj) (fun x hx => (HXL.out W h x (List.mem_of_mem_take hx)).mono fun q _ _ => ⟨Nat.zero_le _, by simp [rowOf]⟩) (by decide) h.size
          exact ⟨a1, k1, W', h1, by rw [List.nil_append, List.map_take, HXM.out.1] at h2; exact h2, h3, fun q hq => h4 q hq (by simp [rowOf])⟩)
        have HA2 : Hid (∀ W a1 k1, Ex w8.heap.size none w8 W → OwnT W w8.heap.size 0 a1 k1 (L.take 777) → ∃ a2 k2 W', (appR #[22, 22] 22 #[.slice a1 777 k1, .slice (some ⟨b, off + 778 * 13, none⟩) 222 (rc - 778)]).run Tryz.prog W = .ok (.slice a2 999 k2) W' ∧ OwnT W' w8.heap.size 0 a2 k2 gapL ∧ Ex w8.heap.size none W W' ∧ ∀ (q : Nat) (cs : Array Value), W.heap[q]? = some (.cells cs 31 (0, 0)) → W'.heap[q]? = some (.cells cs 31 (0, 0))) := Lib.hid (fun W a1 k1 h ho => by
          obtain ⟨a2, k2, W', h1, h2, h3, h4⟩ := run_appMany (w := W) w8.heap.size 0 a1 k1 777 (L.take 777) (by rw [List.length_take, HLN.out]; rfl) ⟨b, off + 778 * 13, none⟩ 222 (rc - 778) (xs.drop 778) (by rw [List.length_drop, HXM.out.2]) ho (fun j v hj => by
            rw [Addr.add_lit, Nat.add_assoc]
            refine HSC.out W h (778 * 13 + j) v ?_
            have hl : (flatL stE (xs.take 778)).length = 778 * 13 := by rw [flatL_len stE_len, List.length_take, HXM.out.2]; rfl
            rw [flatL_cut xs 778, List.getElem?_append_right (by omega), hl, Nat.add_sub_cancel_left]
            exact hj) (fun x hx => (HXL.out W h x (List.mem_of_mem_drop hx)).mono fun q hq _ => ⟨Nat.zero_le _, fun e => by have := OwnT.row_ge ho q e; omega⟩) (by decide) h.size
          exact ⟨a2, k2, W', h1, by
            rw [List.map_drop, HXM.out.1] at h2
            rw [HLF.out] at h2
            exact h2, h3, fun q cs hq => (h4 q (Array.getElem?_eq_some_iff.1 hq).1 (OwnS.other (ho.s (Nat.zero_le _)) hq (by decide))).trans hq⟩)
        obtain ⟨O, hO⟩ : ∃ O : Obj, O = .cells #[.slice none 0 0] 31 (0, 0) := ⟨_, rfl⟩
        have e8 : Ex w8.heap.size none w8 w8.drew := (Ex.refl _ _ _).drew
        have e8b : Ex w8.heap.size none w8 (w8.alloc (.cells #[.slice none 0 0] 31)).drew := ((Ex.refl _ _ _).alloc (Nat.le_refl _) _).drew
        obtain ⟨a1, k1, w9, hr9, ho9, hx9, _⟩ := HA1.out _ e8
        have e9 := e8.trans hx9 (Nat.le_refl _) (by simp)
        obtain ⟨a2, k2, w10, hr10, ho10, hx10, _⟩ := HA2.out w9 a1 k1 e9 ho9
        have hx9b : Ex w9.heap.size none w9 (w9.alloc (.cells #[.slice none 0 0] 31)) := Ex.new _ _
        obtain ⟨a3, k3, w11, hr11, ho11, hx11, hk11⟩ := HA2.out _ a1 k1 (e9.trans hx9b e9.size (by simp)) (ho9.keep hx9b (Nat.le_refl _))
        obtain ⟨a4', k4', w12, hr12, ho12, hx12, hk12⟩ := HA1.out _ e8b
        have e12 := e8b.trans hx12 (Nat.le_refl _) (by simp)
        obtain ⟨a5, k5, w13, hr13, ho13, hx13, hk13⟩ := HA2.out w12 a4' k4' e12 ho12
        have hb11 := hk11 w9.heap.size _ (heap_alloc_new w9 _)
        have hb13 := hk13 w8.heap.size _ ((hk12 w8.heap.size (by simp)).trans (heap_alloc_new w8 _))
        have c11 := box_cell hb11
        have z11 := row_frz' hb11 0
        have c13 := box_cell hb13
        have z13 := row_frz' hb13 0
        have HB11 := Lib.hid hb11
        have HB13 := Lib.hid hb13
        clear hO hb11 hb13 hk11 hk12 hk13
        go_cut [15] from 61 to 70 (fun p W => GapOf w3 p W)
        case first =>
          go_region_held3 (fun w' => True) (trivial) (fail)
          all_goals go_wp2_with (fail)
          all_goals go_meet
          all_goals first
            | exact gap_set HB11.out (by have := e9.size; have := HE8.out.size; omega) (HE8.out.andThen' ((e9.trans hx9b e9.size (by simp)).trans hx11 (Nat.le_refl _) (by simp))) ho11
            | exact gap_set HB13.out (by have := HE8.out.size; omega) (HE8.out.andThen' (e12.trans hx13 (Nat.le_refl _) (by simp))) ho13
            | exact gap_new (HE8.out.andThen' (e9.trans hx10 (Nat.le_refl _) (by simp))) ho10
        case rest =>
        rename World => w14
        obtain ⟨g, a8, k8, rfl, hbs, he14⟩ := hcut
        have HBS := Lib.hid hbs
        have HE14 := Lib.hid he14
        have hgl : g < w14.heap.size := (Array.getElem?_eq_some_iff.1 hbs.1).1
        clear hbs he14
        have HZR : Hid (checkI z.1 = 0 ∧ sealedB z.1 = true) := Lib.hid (by rw [HZ.out]; exact ⟨(fullL_mem (Nat.le_refl _) _ (List.mem_of_getElem? (HLF.out ▸ HLG.out))).1, fullS_sealed _ _⟩)
        have HQ18 : Hid (∀ w', Ex w14.heap.size none w14 w' → w'.cell? ⟨g, 0, none⟩ = some (.slice a8 999 k8) ∧ (rowLoad 28 ⟨b, off + 777 * 13, none⟩).run Tryz.prog w' = .ok (stV z) w') := Lib.hid (fun w' h => ⟨box_cell ((h.block g hgl (by simp)).trans HBS.out.1), (HQ.out w' (HE14.out.andThen' h)).2.2⟩)
        have HMRG : Hid (∀ W g1, Ex w14.heap.size none w14 W → W.heap[g1]? = some (.cells (stV z).cells 28 (0, 0)) → Calls Tryz.prog 11 #[.agg #[.slice a8 999 k8], .agg #[.slice (some ⟨g1, 0, none⟩) 1 1]] W fun e w' => ∃ a5 k5, e = .returned (.tuple #[.agg #[.slice a5 1000 k5], .int .i64 0]) ∧ Ex W.heap.size none W w') := Lib.hid (fun W g1 h hb => by
          refine (mergeP_any (P := fun _ => True) a8 (some ⟨g1, 0, none⟩) 999 k8 1 1 gapL [z.1] W gap_len rfl (HBS.out.2.keep (by decide) fun q _ hq => h.block q hq (by simp)) (stV_one_sl trivial hb (HSW.out W (HE14.out.andThen' h)).2).at' (by decide) (by decide) (fun s hs => by have := validB_light gap_valid s hs; omega) (fun s hs => by rw [List.mem_singleton.1 hs]; exact HZL.out)).mono ?_
          rintro e w' ⟨v', l', c, rfl, hm, hsl, hex⟩
          obtain ⟨h1, h2⟩ := mergeV_ok gap_valid (one_valid HZR.out.1 HZR.out.2) (by rw [HZ.out]; exact gap_apart) (by rw [gap_len]; exact Nat.le_refl _) hm
          obtain ⟨a5, k5, rfl, _⟩ := hsl
          rw [gap_len] at h1
          exact ⟨a5, k5, by rw [h1, h2]; rfl, hex⟩)
        have hlit : ∀ W, (rowBuild 22 1 #[(0, stV z)]).run Tryz.prog W = .ok (.slice (some ⟨W.heap.size, 0, none⟩) 1 1) (W.alloc (.cells (stV z).cells 28)) := fun W => stV_lit W z
        obtain ⟨q2, q3⟩ := HQ18.out w14 (Ex.refl _ _ _)
        go_upto_region 18 with (fail)
        go_cut [16, 17] from 71 to 81 (fun p c W => ∃ g9 a9 k9, p = .pointer (some ⟨g9, 0, none⟩) ∧ c = .int .i64 0 ∧ Hid (W.heap[g9]? = some (.cells #[.slice a9 1000 k9] 31 (0, 0))) ∧ Ex w14.heap.size none w14 W)
        case first =>
          go_region_held3 (fun w' => w'.cell? ⟨g, 0, none⟩ = some (.slice a8 999 k8) ∧ (rowLoad 28 ⟨b, off + 777 * 13, none⟩).run Tryz.prog w' = .ok (stV z) w') (exact HQ18.out _ (by repeat (first | with_reducible exact HE15.out | with_reducible exact (Ex.refl w14.heap.size none w14) | with_reducible refine Ex.alloc ?_ (by first | exact HE15.out.size | (simp; done) | (simp; omega)) _ | with_reducible refine Ex.drew ?_ | with_reducible refine Ex.setCell ?_ 0 none _ (.inr (by first | exact HE15.out.size | (simp; done) | (simp; omega))))))
          (first
            | (go_at_call 11
               refine (HMRG.out _ _ (by repeat (first | with_reducible exact HE15.out | with_reducible exact (Ex.refl w14.heap.size none w14) | with_reducible refine Ex.alloc ?_ (by first | exact HE15.out.size | (simp; done) | (simp; omega)) _ | with_reducible refine Ex.drew ?_ | with_reducible refine Ex.setCell ?_ 0 none _ (.inr (by first | exact HE15.out.size | (simp; done) | (simp; omega))))) (by first | exact heap_alloc_new _ _ | exact (alloc_two _ _ _).1 | exact (alloc_two _ _ _).2)).mono ?_
               rintro e w15 ⟨a5, k5, rfl, hex⟩
               have HE15 : Hid (Ex w14.heap.size none w14 w15) := Lib.hid (Ex.andThen' (by repeat (first | with_reducible exact HE15.out | with_reducible exact (Ex.refl w14.heap.size none w14) | with_reducible refine Ex.alloc ?_ (by first | exact HE15.out.size | (simp; done) | (simp; omega)) _ | with_reducible refine Ex.drew ?_ | with_reducible refine Ex.setCell ?_ 0 none _ (.inr (by first | exact HE15.out.size | (simp; done) | (simp; omega))))) hex)
               clear hlit
               try (
                 have hb9 : w15.heap[w14.heap.size]? = some (.cells #[.slice none 0 0] 31 (0, 0)) := (by first | exact (box_two hex).2 | exact (box_twoD hex).2)
                 have c9 := box_cell hb9
                 have z9 := row_frz' hb9 0
                 have HB9 := Lib.hid hb9
                 clear hb9)
               try (
                 have hb9 : w15.heap[w14.heap.size + 1]? = some (.cells #[.slice none 0 0] 31 (0, 0)) := (by first | exact (box_two hex).1 | exact (box_twoD hex).1)
                 have c9 := box_cell hb9
                 have z9 := row_frz' hb9 0
                 have HB9 := Lib.hid hb9
                 clear hb9)
               clear hex q2 q3
               obtain ⟨q2, q3⟩ := HQ18.out w15 HE15.out)
            | fail)
          all_goals go_wp2_with (fail)
          all_goals go_meet
          all_goals first
            | exact ⟨_, a5, k5, rfl, rfl, Lib.hid (heap_alloc_new _ _), HE15.out.alloc HE15.out.size _⟩
            | exact ⟨_, a5, k5, rfl, rfl, Lib.hid (by rw [heap_setCell_same _ _ _ _ _ _ HB9.out]; rfl), HE15.out.setCell 0 none _ (.inr (by omega))⟩
        case rest =>
        rename World => w16
        obtain ⟨g9', a9, k9, rfl, rfl, HB16, he16⟩ := hcut
        have HE16 : Hid (Ex w3.heap.size none w3 w16) := Lib.hid (HE14.out.andThen' he16)
        have hgl9 : g9' < w16.heap.size := (Array.getElem?_eq_some_iff.1 HB16.out).1
        clear he16 q2 q3 hlit
        obtain ⟨q1, q2, q3⟩ := HQ.out w16 HE16.out
        have hlit := stV_lit w16 y
        go_upto_region 20 with (first
          | (go_at_call 11
             refine (mergeP_any (P := fun _ => True) (some ⟨b, off, none⟩) (some ⟨w16.heap.size, 0, none⟩) 1000 rc 1 1 L [y.1] _ HLN.out rfl (HSW.out _ (HE16.out.andThen' (Ex.new w16 _))).1 (stV_one_sl trivial (heap_alloc_new w16 _) (HLY.out _ (HE16.out.andThen' (Ex.new w16 _)))).at' (by decide) (by decide) HLL.out (fun s hs => by rw [List.mem_singleton.1 hs]; exact HYL.out)).mono ?_
             rintro e w17 ⟨v17, l17, c17, rfl, hm, hsl, hex⟩
             have hc17 : c17 = 3 := mergeV_full HLV.out (one_valid (by rw [HY.out]; exact fullS_check (by decide) (by decide)) (by rw [HY.out]; exact fullS_sealed _ _)) (by rw [HLF.out, HY.out]; exact more_apart (by decide)) (by rw [HLN.out]; exact Nat.lt_succ_self 1000) hm
             subst hc17
             obtain ⟨a17, k17, rfl, _⟩ := hsl
             have HE17 : Hid (Ex w16.heap.size none w16 w17) := Lib.hid ((Ex.new w16 _).andThen' hex)
             clear hm hex q1 q2 q3 hlit)
          | fail)
        refine wp_world (fun W => W = w17.alloc (.cells #[.slice a17 l17.length k17] 31)) rfl (fun w18 hw18 => ?_)
        have HE18 : Hid (Ex w16.heap.size none w16 w18) := Lib.hid (HE17.out.andThen' (by rw [hw18]; exact Ex.new w17 _))
        clear hw18
        have HC20 : Hid (∀ w', Ex w18.heap.size none w18 w' → w'.cell? ⟨g9', 0, none⟩ = some (.slice a9 1000 k9)) := Lib.hid (fun w' h => box_cell (((HE18.out.andThen' h).block g9' hgl9 (by simp)).trans HB16.out))
        go_wp2_with (first
          | (go_at_call 12
             refine (awake05_any w18).mono ?_
             rintro e w19 ⟨rfl, hex⟩
             have HE19 : Hid (Ex w18.heap.size none w18 w19) := Lib.hid hex
             have q20 := HC20.out w19 hex
             clear hex)
          | fail)
        go_ret
        exact ⟨rfl, HER.out.trans (HE3.out.andThen' (HE16.out.andThen' (HE18.out.andThen' HE19.out))) hsz0 (by simp)⟩
end Go.Proofs.YtdifcnhhcinonaaGreat

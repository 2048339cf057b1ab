/- store.Add: a contract, no statement of the seat. | store.Merge: a contract, no statement of the seat. | chain.links: a contract, no statement of the seat. | Links in memory, one by one; a row of cells stored as one step of a region. No statement of the seat. | Links as values that the walk does not open; chain.follows and chain.copied in these words. No statement of the seat. -/
import Derived.Test.YtdifcnhhcinonaaGreatMg08
import Derived.Laws.ResultCell
import Derived.Deep.RegionHeld3
import Derived.Test.YtdifcnhhcinonaaGreatMg06
import Derived.Test.YtdifcnhhcinonaaGreatMg01
import Derived.Test.YtdifcnhhcinonaaGreatCheckPG
import Derived.Test.YtdifcnhhcinonaaGreatMg07
import Derived.Test.YtdifcnhhcinonaaGreatMg05
import Derived.Great.BuildSlice
namespace Go.Proofs.YtdifcnhhcinonaaGreat
open Go.RowKit Go.Sort
attribute [local go_sem ↓] rowLoad_stv rowStore_stv rowBuild_stv

/-- What store.Add answers: the statements, whether there is one more, the error. -/
def AddR (l : List St) (x : St) (l' : List St) (b : Bool) (c : Int) : Prop :=
  (validB l = false ∧ l' = l ∧ b = false ∧ c = 1) ∨ (validB l = true ∧ checkI x ≠ 0 ∧ l' = l ∧ b = false ∧ c = checkI x) ∨ (validB l = true ∧ checkI x = 0 ∧ sealedB x = false ∧ l' = l ∧ b = false ∧ c = 6) ∨
  (validB l = true ∧ checkI x = 0 ∧ sealedB x = true ∧ ∃ k there, SearchR l x k there ∧ ((1000 < (putA l x k there).length ∧ l' = l ∧ b = false ∧ c = 3) ∨ ((putA l x k there).length ≤ 1000 ∧ l' = putA l x k there ∧ b = !there ∧ c = 0)))
/-- The same, the bool as a value (a word that the walk does not open). -/
def AddV (l : List St) (x : St) (l' : List St) (u : Value) (c : Int) : Prop := ∃ b : Bool, u = .bool b ∧ AddR l x l' b c
theorem validB_light {l : List St} (h : validB l = true) : LightL 1000000 l := fun s hs => by
  have := checkI_tame (validB_mem h s hs).1
  have h1 := this.list
  have h2 := this.pins
  omega

set_option maxHeartbeats 8000000 in
set_option maxRecDepth 100000 in
theorem storeAdd_any {P : Nat → Prop} (ao : Option Addr) (n0 cap : Nat) (l : List St) (x : St × Sv × Sv) (w : World) (hn0 : l.length = n0) (hv : SlAt stRep P w ao l) (hm : n0 ≤ 9223372036854775807) (hL : LightL 9223372036854775807 l) (hx : Lies P w x) (hxm : x.1.list.length ≤ 9223372036854775807 ∧ x.1.pins.length ≤ 9223372036854775807) :
    Calls Tryz.prog 10 #[.agg #[.slice ao n0 cap], stV x] w fun e w' => ∃ v' l' u c, e = .returned (.tuple #[.agg #[v'], u, .int .i64 c]) ∧ AddV l x.1 l' u c ∧ Sl stRep (fun q => P q ∨ w.heap.size ≤ q) w' v' l' ∧ Ex w.heap.size none w w' := by
  have HV := Lib.hid hv
  have HN := Lib.hid hn0
  have HLL := Lib.hid hL
  have HX := Lib.hid hx
  have HXM := Lib.hid hxm
  obtain ⟨ws, hws⟩ : ∃ ws : World, ws = ((w.alloc (.cells #[.slice ao n0 cap] 31)).alloc (.cells (stV x).cells 28)).alloc (.cells #[.slice none 0 0] 31) := ⟨_, rfl⟩
  have HEs : Hid (Ex w.heap.size none w ws) := Lib.hid (by rw [hws]; exact ((Ex.new w _).alloc (by simp) _).alloc (by simp; omega) _)
  have hzs : ws.heap.size = w.heap.size + 1 + 1 + 1 := by rw [hws]; simp
  have HBs : Hid (ws.heap[w.heap.size]? = some (.cells #[.slice ao n0 cap] 31 (0, 0)) ∧ ws.heap[w.heap.size + 1]? = some (.cells (stV x).cells 28 (0, 0)) ∧ ws.heap[w.heap.size + 1 + 1]? = some (.cells #[.slice none 0 0] 31 (0, 0))) := Lib.hid (by
    rw [hws]
    have e1 := heap_alloc_new w (.cells #[.slice ao n0 cap] 31)
    have e2 := heap_alloc_new (w.alloc (.cells #[.slice ao n0 cap] 31)) (.cells (stV x).cells 28)
    have e3 := heap_alloc_new ((w.alloc (.cells #[.slice ao n0 cap] 31)).alloc (.cells (stV x).cells 28)) (.cells #[.slice none 0 0] 31)
    have f1 := (Ex.new (w.alloc (.cells #[.slice ao n0 cap] 31)) (.cells (stV x).cells 28)).block w.heap.size (by simp) (by simp)
    have f2 := fun b hb => (Ex.new ((w.alloc (.cells #[.slice ao n0 cap] 31)).alloc (.cells (stV x).cells 28)) (.cells #[.slice none 0 0] 31)).block b hb (by simp)
    simp only [World.size_alloc] at e2 e3 f2
    exact ⟨(f2 _ (by omega)).trans (f1.trans e1), (f2 _ (by omega)).trans e2, e3⟩)
  have HQ : Hid (∀ w', Ex ws.heap.size none ws w' → w'.cell? ⟨w.heap.size, 0, none⟩ = some (.slice ao n0 cap) ∧ (rowLoad 28 ⟨w.heap.size + 1, 0, none⟩).run Tryz.prog w' = .ok (stV x) w' ∧ w'.cell? ⟨w.heap.size + 1 + 1, 0, none⟩ = some (.slice none 0 0) ∧ w'.frozen? ⟨w.heap.size + 1 + 1, 0, none⟩ = false) := Lib.hid (fun w' h => by
    have k0 := (h.block w.heap.size (by omega) (by simp)).trans HBs.out.1
    have k2 := (h.block (w.heap.size + 1 + 1) (by omega) (by simp)).trans HBs.out.2.2
    exact ⟨box_cell k0, stV_box ((h.block (w.heap.size + 1) (by omega) (by simp)).trans HBs.out.2.1), box_cell k2, by simp [World.frozen?, k2]⟩)
  have HQ2 : Hid (∀ w', Ex ws.heap.size none ws w' → w'.cell? ⟨w.heap.size, 0, none⟩ = some (.slice ao n0 cap) ∧ (rowLoad 28 ⟨w.heap.size + 1, 0, none⟩).run Tryz.prog w' = .ok (stV x) w') := Lib.hid (fun w' h => ⟨(HQ.out w' h).1, (HQ.out w' h).2.1⟩)
  have HQ3 : Hid (∀ w', Ex ws.heap.size none ws w' → ∀ v, (w'.setCell ⟨w.heap.size + 1 + 1, 0, none⟩ v).cell? ⟨w.heap.size, 0, none⟩ = some (.slice ao n0 cap) ∧ (rowLoad 28 ⟨w.heap.size + 1, 0, none⟩).run Tryz.prog (w'.setCell ⟨w.heap.size + 1 + 1, 0, none⟩ v) = .ok (stV x) (w'.setCell ⟨w.heap.size + 1 + 1, 0, none⟩ v)) := Lib.hid (fun w' h v => by
    have k0 := (Below.heap_setCell w' ⟨w.heap.size + 1 + 1, 0, none⟩ v w.heap.size (show w.heap.size ≠ w.heap.size + 1 + 1 by omega)).trans ((h.block w.heap.size (by omega) (by simp)).trans HBs.out.1)
    have k1 := (Below.heap_setCell w' ⟨w.heap.size + 1 + 1, 0, none⟩ v (w.heap.size + 1) (show w.heap.size + 1 ≠ w.heap.size + 1 + 1 by omega)).trans ((h.block (w.heap.size + 1) (by omega) (by simp)).trans HBs.out.2.1)
    exact ⟨box_cell k0, stV_box k1⟩)
  have HSX : Hid (∀ w', Ex ws.heap.size none ws w' → Sl stRep P w' (.slice ao n0 cap) l) := Lib.hid (fun w' h => ⟨ao, cap, by rw [HN.out], HV.out.keep (by decide) fun b _ hb => (h.block b (by omega) (by simp)).trans (HEs.out.block b hb (by simp))⟩)
  have HLX : Hid (∀ w', Ex ws.heap.size none ws w' → Lies P w' x) := Lib.hid (fun w' h => HX.out.keep fun b _ hb => (h.block b (by omega) (by simp)).trans (HEs.out.block b hb (by simp)))
  have HBK : Hid (∀ w', Ex ws.heap.size none ws w' → Sl stRep (fun q => P q ∨ w.heap.size ≤ q) (w'.setCell ⟨w.heap.size + 1 + 1, 0, none⟩ (.slice ao n0 cap)) (.slice ao n0 cap) l) := Lib.hid (fun w' h => ⟨ao, cap, by rw [HN.out], (HV.out.keep (by decide) fun b _ hb => (Below.heap_setCell _ _ _ _ (show b ≠ w.heap.size + 1 + 1 by omega)).trans ((h.block b (by omega) (by simp)).trans (HEs.out.block b hb (by simp)))).mono (by decide) fun b hb _ => .inl hb⟩)
  obtain ⟨q, hq0⟩ : ∃ q, q = checkI x.1 := ⟨_, rfl⟩
  have HCQ : Hid (checkI x.1 = q) := Lib.hid hq0.symm
  have HCK : Hid (∀ w', Ex ws.heap.size none ws w' → Calls Tryz.prog 47 #[stV x] w' fun e w'' => e = .returned (.int .i64 q) ∧ Ex w'.heap.size none w' w'') := Lib.hid (fun w' h => by rw [hq0]; exact check_v x w' (HLX.out w' h) HXM.out)
  clear hq0 hn0 hv hL hx hxm
  go_enter Tryz.func10, Tryz.ntmps10
  go_upto_region 1 with (fail)
  refine wp_world (fun W => W = ws) (by rw [hws]; rfl) (fun W hW => ?_)
  rw [hW]
  clear hW W hws
  obtain ⟨c0, r1, c2, z2⟩ := HQ.out _ (Ex.refl _ _ ws)
  cases hvb : validB l with
  | false =>
    have HVB := Lib.hid hvb
    have HVA : Hid (∀ w', Ex ws.heap.size none ws w' → Calls Tryz.prog 46 #[.agg #[.slice ao n0 cap]] w' fun e w'' => e = .returned (.bool false) ∧ Ex w'.heap.size none w' w'') := Lib.hid (fun w' h => asB (storeValid_any _ l w' (HSX.out w' h) (by rw [HN.out]; exact hm) HLL.out) hvb)
    clear hvb
    go_wp2_with (first
      | (go_at_call 46
         refine (HVA.out _ (Ex.refl _ _ ws)).mono ?_
         rintro e w1 ⟨rfl, hex⟩
         have HE1 : Hid (Ex ws.heap.size none ws w1) := Lib.hid hex
         clear hex
         clear c0 r1 c2 z2
         obtain ⟨c0, r1, c2, z2⟩ := HQ.out _ HE1.out)
      | fail)
    refine bodyPost_ret (v := .tuple #[.agg #[.slice ao n0 cap], .bool false, .int .i64 1]) (by simp [results, Tryz.results10, go_sem, c2]) rfl ?_
    exact ⟨.slice ao n0 cap, l, .bool false, 1, rfl, ⟨_, rfl, .inl ⟨HVB.out, rfl, rfl, rfl⟩⟩, HBK.out _ HE1.out, (HEs.out.trans HE1.out (by omega) (by simp)).setCell _ none _ (.inr (by omega))⟩
  | true =>
    have HVB := Lib.hid hvb
    have HVA : Hid (∀ w', Ex ws.heap.size none ws w' → Calls Tryz.prog 46 #[.agg #[.slice ao n0 cap]] w' fun e w'' => e = .returned (.bool true) ∧ Ex w'.heap.size none w' w'') := Lib.hid (fun w' h => asB (storeValid_any _ l w' (HSX.out w' h) (by rw [HN.out]; exact hm) HLL.out) hvb)
    have hl1 : l.length ≤ 1000 := validB_len hvb
    have hn1 : n0 ≤ 1000 := by rw [← HN.out]; exact hl1
    clear hvb
    by_cases t2 : q = 0
    case neg =>
      have k2 : (q == 0) = false := by simpa using t2
      have k2b : (q != 0) = true := by simpa using t2
      have HT2 := Lib.hid t2
      clear t2
      go_upto_region 4 with (first
        | (go_at_call 46
           refine (HVA.out _ (Ex.refl _ _ ws)).mono ?_
           rintro e w1 ⟨rfl, hex⟩
           have HE1 : Hid (Ex ws.heap.size none ws w1) := Lib.hid hex
           clear hex
           clear c0 r1 c2 z2
           obtain ⟨c0, r1, c2, z2⟩ := HQ.out _ HE1.out)
        | (go_at_call 47
           refine (HCK.out _ HE1.out).mono ?_
           rintro e w2 ⟨rfl, hex⟩
           have HE2 : Hid (Ex ws.heap.size none ws w2) := Lib.hid (HE1.out.trans hex HE1.out.size (by simp))
           clear hex
           clear c0 r1 c2 z2
           obtain ⟨c0, r1, c2, z2⟩ := HQ.out _ HE2.out)
        | fail)
      go_region_held3 (fun w' => w'.cell? ⟨w.heap.size, 0, none⟩ = some (.slice ao n0 cap) ∧ (rowLoad 28 ⟨w.heap.size + 1, 0, none⟩).run Tryz.prog w' = .ok (stV x) w' ) (first | exact HQ2.out _ HE3.out | exact HQ2.out _ HE2.out | exact HQ2.out _ (Ex.drew HE2.out) | exact HQ3.out _ HE3.out _)
        (first
          | (go_at_call 47
             refine (HCK.out _ (by first | exact HE2.out | exact Ex.drew HE2.out)).mono ?_
             rintro e w3 ⟨rfl, hex⟩
             have HE3 : Hid (Ex ws.heap.size none ws w3) := Lib.hid ((by first | exact HE2.out | exact Ex.drew HE2.out : Ex ws.heap.size none ws _).trans hex (by first | exact HE2.out.size | (simp; done) | (simp; exact HE2.out.size)) (by simp))
             clear hex
             clear c0 r1 c2 z2
             obtain ⟨c0, r1, c2, z2⟩ := HQ.out _ HE3.out)
          | fail)
      go_wp2
      refine bodyPost_ret (v := .tuple #[.agg #[.slice ao n0 cap], .bool false, .int .i64 q]) (by simp [results, Tryz.results10, go_sem, c2]) rfl ?_
      exact ⟨.slice ao n0 cap, l, .bool false, q, rfl, ⟨_, rfl, .inr (.inl ⟨HVB.out, by rw [HCQ.out]; exact HT2.out, rfl, rfl, HCQ.out.symm⟩)⟩, HBK.out _ HE3.out, (HEs.out.trans HE3.out (by omega) (by simp)).setCell _ none _ (.inr (by omega))⟩
    have k2 : (q == 0) = true := by simpa using t2
    have k2b : (q != 0) = false := by simpa using t2
    have HT2 : Hid (checkI x.1 = 0) := Lib.hid (HCQ.out.trans t2)
    have HTM := Lib.hid (checkI_tame HT2.out)
    clear t2
    cases t3 : sealedB x.1 with
    | false =>
      have HT3 := Lib.hid t3
      have HSL : Hid (∀ w', Ex ws.heap.size none ws w' → Calls Tryz.prog 48 #[stV x] w' fun e w'' => e = .returned (.bool false) ∧ Ex w'.heap.size none w' w'') := Lib.hid (fun w' h => asB (sealed_v x w' (HLX.out w' h) HTM.out) t3)
      clear t3
      go_wp2_with (first
        | (go_at_call 46
           refine (HVA.out _ (Ex.refl _ _ ws)).mono ?_
           rintro e w1 ⟨rfl, hex⟩
           have HE1 : Hid (Ex ws.heap.size none ws w1) := Lib.hid hex
           clear hex
           clear c0 r1 c2 z2
           obtain ⟨c0, r1, c2, z2⟩ := HQ.out _ HE1.out)
        | (go_at_call 47
           refine (HCK.out _ HE1.out).mono ?_
           rintro e w2 ⟨rfl, hex⟩
           have HE2 : Hid (Ex ws.heap.size none ws w2) := Lib.hid (HE1.out.trans hex HE1.out.size (by simp))
           clear hex
           clear c0 r1 c2 z2
           obtain ⟨c0, r1, c2, z2⟩ := HQ.out _ HE2.out)
        | (go_at_call 48
           refine (HSL.out _ HE2.out).mono ?_
           rintro e w3 ⟨rfl, hex⟩
           have HE3 : Hid (Ex ws.heap.size none ws w3) := Lib.hid (HE2.out.trans hex HE2.out.size (by simp))
           clear hex
           clear c0 r1 c2 z2
           obtain ⟨c0, r1, c2, z2⟩ := HQ.out _ HE3.out)
        | fail)
      refine bodyPost_ret (v := .tuple #[.agg #[.slice ao n0 cap], .bool false, .int .i64 6]) (by simp [results, Tryz.results10, go_sem, c2]) rfl ?_
      exact ⟨.slice ao n0 cap, l, .bool false, 6, rfl, ⟨_, rfl, .inr (.inr (.inl ⟨HVB.out, HT2.out, HT3.out, rfl, rfl, rfl⟩))⟩, HBK.out _ HE3.out, (HEs.out.trans HE3.out (by omega) (by simp)).setCell _ none _ (.inr (by omega))⟩
    | true =>
      have HT3 := Lib.hid t3
      have HSL : Hid (∀ w', Ex ws.heap.size none ws w' → Calls Tryz.prog 48 #[stV x] w' fun e w'' => e = .returned (.bool true) ∧ Ex w'.heap.size none w' w'') := Lib.hid (fun w' h => asB (sealed_v x w' (HLX.out w' h) HTM.out) t3)
      have HTL : Hid (LightL 1000000 l) := Lib.hid (validB_light HVB.out)
      have HRS : Hid (RisingA l) := Lib.hid (validB_rising HVB.out)
      have HXL : Hid (x.1.list.length ≤ 1000000 ∧ x.1.pins.length ≤ 1000000) := Lib.hid (by have h1 := HTM.out.list; have h2 := HTM.out.pins; omega)
      clear t3
      go_upto_region 7 with (first
        | (go_at_call 46
           refine (HVA.out _ (Ex.refl _ _ ws)).mono ?_
           rintro e w1 ⟨rfl, hex⟩
           have HE1 : Hid (Ex ws.heap.size none ws w1) := Lib.hid hex
           clear hex
           clear c0 r1 c2 z2
           obtain ⟨c0, r1, c2, z2⟩ := HQ.out _ HE1.out)
        | (go_at_call 47
           refine (HCK.out _ HE1.out).mono ?_
           rintro e w2 ⟨rfl, hex⟩
           have HE2 : Hid (Ex ws.heap.size none ws w2) := Lib.hid (HE1.out.trans hex HE1.out.size (by simp))
           clear hex
           clear c0 r1 c2 z2
           obtain ⟨c0, r1, c2, z2⟩ := HQ.out _ HE2.out)
        | (go_at_call 48
           refine (HSL.out _ HE2.out).mono ?_
           rintro e w3 ⟨rfl, hex⟩
           have HE3 : Hid (Ex ws.heap.size none ws w3) := Lib.hid (HE2.out.trans hex HE2.out.size (by simp))
           clear hex
           clear c0 r1 c2 z2
           obtain ⟨c0, r1, c2, z2⟩ := HQ.out _ HE3.out)
        | fail)
      go_region_held3 (fun w' => w'.cell? ⟨w.heap.size, 0, none⟩ = some (.slice ao n0 cap) ∧ (rowLoad 28 ⟨w.heap.size + 1, 0, none⟩).run Tryz.prog w' = .ok (stV x) w' ) (first | exact HQ2.out _ HE5.out | exact HQ2.out _ HE4.out.1 | exact HQ2.out _ HE3.out | exact HQ2.out _ (Ex.drew HE3.out))
        (first
          | (go_at_call 50
             refine (shelfCopy_any (P := P) _ l _ (HSX.out _ (by first | exact HE3.out | exact Ex.drew HE3.out)) (by omega) HTL.out).mono ?_
             rintro e w4 ⟨ro, n, rc, rfl, hn, hown, hex⟩
             have HO4 : Hid (OwnS w4 w3.heap.size ro rc l ∧ l.length = n) := Lib.hid ⟨hown, hn.symm⟩
             have HE4 : Hid (Ex ws.heap.size none ws w4 ∧ w3.heap.size ≤ w4.heap.size) := Lib.hid ⟨HE3.out.trans (show Ex w3.heap.size none w3 w4 from by first | exact hex | exact (Ex.refl w3.heap.size none w3).drew.trans hex (Nat.le_refl _) (by simp)) HE3.out.size (by simp), hex.size⟩
             clear hex hown hn
             clear c0 r1 c2 z2
             obtain ⟨c0, r1, c2, z2⟩ := HQ.out _ HE4.out.1)
          | (go_at_call 49
             refine (shelfPut_any (P := P) w3.heap.size ro rc n l x w4 HO4.out.1 HO4.out.2 (by rw [← HO4.out.2]; omega) HE4.out.2 HRS.out (HLX.out _ HE4.out.1) HXL.out).mono ?_
             rintro e w5 ⟨k, b, ro', n', rc', rfl, hsr, hn', hown, hex⟩
             obtain ⟨fr, hfr⟩ : ∃ fr, fr = !b := ⟨_, rfl⟩
             rw [← hfr]
             have HFR := Lib.hid hfr
             clear hfr
             have HO5 : Hid (OwnS w5 w3.heap.size ro' rc' (putA l x.1 k b) ∧ SearchR l x.1 k b ∧ n' = (putA l x.1 k b).length) := Lib.hid ⟨hown, hsr, hn'⟩
             have HE5 : Hid (Ex ws.heap.size none ws w5) := Lib.hid (HE4.out.1.trans (hex.mono (show ws.heap.size ≤ w3.heap.size from HE3.out.size)) (Nat.le_refl _) (by simp))
             clear hex hown hsr hn'
             clear c0 r1 c2 z2
             obtain ⟨c0, r1, c2, z2⟩ := HQ.out _ HE5.out)
          | fail)
      obtain ⟨m, hm0⟩ : ∃ m, m = n' := ⟨_, rfl⟩
      by_cases hbig : 1000 < n'
      · have hbI : (1000 : Int) < (n' : Int) := by omega
        go_wp2
        refine bodyPost_ret (v := .tuple #[.agg #[.slice ao n0 cap], .bool false, .int .i64 3]) (by simp [results, Tryz.results10, go_sem, c2]) rfl ?_
        exact ⟨.slice ao n0 cap, l, .bool false, 3, rfl, ⟨_, rfl, .inr (.inr (.inr ⟨HVB.out, HT2.out, HT3.out, k, b, HO5.out.2.1, .inl ⟨by have := HO5.out.2.2; omega, rfl, rfl, rfl⟩⟩))⟩, HBK.out _ HE5.out, (HEs.out.trans HE5.out (by omega) (by simp)).setCell _ none _ (.inr (by omega))⟩
      · have hbI : ¬ (1000 : Int) < (n' : Int) := by omega
        go_wp2
        refine bodyPost_ret (v := .tuple #[.agg #[.slice ro' n' rc'], .bool fr, .int .i64 0]) (by simp [results, Tryz.results10, go_sem, c2]) rfl ?_
        refine ⟨.slice ro' n' rc', putA l x.1 k b, .bool fr, 0, rfl, ⟨_, rfl, .inr (.inr (.inr ⟨HVB.out, HT2.out, HT3.out, k, b, HO5.out.2.1, .inr ⟨by have := HO5.out.2.2; omega, rfl, HFR.out, rfl⟩⟩))⟩, ?_, (HEs.out.trans HE5.out (by omega) (by simp)).setCell _ none _ (.inr (by omega))⟩
        have hz3 := HE3.out.size
        rw [HO5.out.2.2]
        exact (HO5.out.1.sl.keep (by decide) fun q hq _ => Below.heap_setCell _ _ _ _ (show q ≠ w.heap.size + 1 + 1 by omega)).mono (by decide) fun q hq _ => .inr (by omega)
end Go.Proofs.YtdifcnhhcinonaaGreat

namespace Go.Proofs.YtdifcnhhcinonaaGreat
open Go.RowKit Go.Sort

def sameAS (s t : St) : Bool := cmpA s t == 0
/-- m: what two shelves hold, sorted, of neighbours alike the first alone. -/
def MergeR (l1 l2 m : List St) : Prop := ∃ d : List St, d.Perm (l1 ++ l2) ∧ (∀ (i j : Nat) (x y : St), i < j → d[i]? = some x → d[j]? = some y → ltA y x = false) ∧ m = cpt sameAS d.toArray d.length
theorem mergeR_of {l1 l2 : List St} {acc : List (St × Sv × Sv)} {d' : Array (St × Sv × Sv)} (h : acc.map (·.1) = l1 ++ l2) (hp : d'.toList.Perm acc) (hs : SortedIn (ltOf cmpAND) 0 d'.size d') (n : Nat) (hn : d'.size = n) : MergeR l1 l2 ((cpt sameA d' n).map (·.1)) := by
  subst hn
  refine ⟨d'.toList.map (·.1), by rw [← h]; exact hp.map _, fun i j x y hij hi hj => ?_, ?_⟩
  · have hj' : j < d'.size := by have := (List.getElem?_eq_some_iff.1 hj).1; simpa using this
    have hi' : i < d'.size := by omega
    have k := hs i j (Nat.zero_le _) hij hj'
    rw [ltOf_cmpAND, getElem!_pos d' i hi', getElem!_pos d' j hj'] at k
    simp only [List.getElem?_map, Array.getElem?_toList, Array.getElem?_eq_getElem hi', Array.getElem?_eq_getElem hj', Option.map_some, Option.some.injEq] at hi hj
    rw [← hi, ← hj]; exact k
  · rw [cpt_map (fun x : St × Sv × Sv => x.1) (eq := sameA) (eq' := sameAS) (fun _ _ => rfl) d' d'.size (Nat.le_refl _)]
    rw [show d'.map (fun x : St × Sv × Sv => x.1) = (d'.toList.map (fun x => x.1)).toArray by apply Array.ext'; simp]
    simp only [List.length_map, Array.length_toList]
theorem MergeR.mem {l1 l2 m : List St} (h : MergeR l1 l2 m) : ∀ s ∈ m, s ∈ l1 ++ l2 := fun s hs => by
  obtain ⟨d, hp, _, rfl⟩ := h
  have h1 : s ∈ d := by simpa using cpt_mem d.length (by simp) hs
  exact hp.mem_iff.1 h1
/-- A row where it lies. -/
def RowH (w : World) (base : Nat) (ro : Option Addr) (zs : List (St × Sv × Sv)) : Prop := zs = [] ∨ ∃ g, ro = some ⟨g, 0, none⟩ ∧ base ≤ g ∧ g < w.heap.size ∧ HoldsK stE 13 w g 0 zs.toArray
theorem sortRow_any (base : Nat) (ro : Option Addr) (rc n : Nat) (zs : List (St × Sv × Sv)) (w : World) (h : RowH w base ro zs) (hn : zs.length = n) (hm : n ≤ 1000000) (hb : base ≤ w.heap.size) :
    Calls Tryz.prog 52 #[.slice ro n rc, .func (.func 53) #[] #[]] w fun e w' => e = .returned (.tuple #[]) ∧ ∃ d : Array (St × Sv × Sv), RowH w' base ro d.toList ∧ d.size = n ∧ d.toList.Perm zs ∧ SortedIn (ltOf cmpAND) 0 d.size d ∧ Ex base none w w' := by
  rcases h with rfl | ⟨g, rfl, hg, hlt, hH⟩
  · obtain rfl : n = 0 := by rw [← hn]; rfl
    refine (sortSt_none ro rc _ w).mono ?_
    rintro e w' ⟨rfl, rfl⟩
    exact ⟨rfl, #[], .inl rfl, rfl, List.Perm.refl _, fun i j _ _ hj => by simp at hj, Ex.refl _ _ _⟩
  · refine (sortSt_any g 0 rc n zs.toArray w hH hlt (by simpa using hn) (by omega)).mono ?_
    rintro e w' ⟨rfl, d, h1, h2, h3, h4, h5⟩
    exact ⟨rfl, d, .inr ⟨g, rfl, hg, Nat.lt_of_lt_of_le hlt h5.size, by simpa using h1⟩, h2, by simpa using h3, h4, (h5.mono hb).above hg⟩
theorem compRow_any (base : Nat) (ro : Option Addr) (rc n : Nat) (d : Array (St × Sv × Sv)) (w : World) (h : RowH w base ro d.toList) (hn : d.size = n) (hm : n ≤ 1000000) (hc : n ≤ rc) (hb : base ≤ w.heap.size) :
    Calls Tryz.prog 54 #[.slice ro n rc, .func (.func 55) #[] #[]] w fun e w' => e = .returned (.slice ro (cpt sameA d n).length rc) ∧ RowH w' base ro (cpt sameA d n) ∧ Ex base none w w' := by
  rcases h with h0 | ⟨g, rfl, hg, hlt, hH⟩
  · have h0 : d = #[] := by apply Array.ext'; simpa using h0
    subst h0
    obtain rfl : n = 0 := by rw [← hn]; rfl
    refine (compactStNone_any ro rc _ w).mono ?_
    rintro e w' ⟨rfl, rfl⟩
    exact ⟨rfl, .inl rfl, Ex.refl _ _ _⟩
  · refine (compactSts_any g rc n d w (by simpa using hH) hlt hn (by omega) hc).mono ?_
    rintro e w' ⟨rfl, h1, h2⟩
    exact ⟨rfl, .inr ⟨g, rfl, hg, Nat.lt_of_lt_of_le hlt h2.size, h1⟩, (h2.mono hb).above hg⟩
theorem RowH.at {P : Nat → Prop} {w : World} {base : Nat} {ro : Option Addr} {zs : List (St × Sv × Sv)} (h : RowH w base ro zs) (hl : ∀ x ∈ zs, Lies P w x) : SlAt stRep (fun b => P b ∨ base ≤ b) w ro (zs.map (·.1)) := by
  rcases h with rfl | ⟨g, rfl, hg, _, hH⟩
  · exact SlAt.nil _ _ _
  · exact st_sl (P := fun b => P b ∨ base ≤ b) (.inr hg) hH fun x hx => (hl x hx).mono fun b hb _ => .inl hb
/-- What store.Merge answers. -/
def MergeV (l1 l2 l' : List St) (c : Int) : Prop :=
  ((validB l1 && validB l2) = false ∧ l' = [] ∧ c = 1) ∨ ((validB l1 && validB l2) = true ∧ ∃ m, MergeR l1 l2 m ∧ ((1000 < m.length ∧ l' = [] ∧ c = 3) ∨ (m.length ≤ 1000 ∧ l' = m ∧ c = 0)))

set_option maxHeartbeats 8000000 in
set_option maxRecDepth 100000 in
theorem mergeP_any {P : Nat → Prop} (a1 a2 : Option Addr) (n1 k1 n2 k2 : Nat) (l1 l2 : List St) (w : World) (hn1 : l1.length = n1) (hn2 : l2.length = n2) (h1 : SlAt stRep P w a1 l1) (h2 : SlAt stRep P w a2 l2) (hm1 : n1 ≤ 100000) (hm2 : n2 ≤ 100000) (hL1 : LightL 9223372036854775807 l1) (hL2 : LightL 9223372036854775807 l2) :
    Calls Tryz.prog 11 #[.agg #[.slice a1 n1 k1], .agg #[.slice a2 n2 k2]] w fun e w' => ∃ v' l' c, e = .returned (.tuple #[.agg #[v'], .int .i64 c]) ∧ MergeV l1 l2 l' c ∧ Sl stRep (fun q => w.heap.size ≤ q) w' v' l' ∧ Ex w.heap.size none w w' := by
  have HN1 := Lib.hid hn1
  have HN2 := Lib.hid hn2
  have HLL1 := Lib.hid hL1
  have HLL2 := Lib.hid hL2
  have HX1 : Hid (∀ w', Ex w.heap.size none w w' → SlAt stRep (fun b => P b ∧ b < w.heap.size) w' a1 l1) := Lib.hid (fun w' h => (h1.mono (by decide) fun b hb hlt => (⟨hb, hlt⟩ : P b ∧ b < w.heap.size)).keep (by decide) fun b _ hb => h.block b hb (by simp))
  have HX2 : Hid (∀ w', Ex w.heap.size none w w' → SlAt stRep (fun b => P b ∧ b < w.heap.size) w' a2 l2) := Lib.hid (fun w' h => (h2.mono (by decide) fun b hb hlt => (⟨hb, hlt⟩ : P b ∧ b < w.heap.size)).keep (by decide) fun b _ hb => h.block b hb (by simp))
  clear hn1 hn2 hL1 hL2 h1 h2
  obtain ⟨ws, hws⟩ : ∃ ws : World, ws = ((w.alloc (.cells #[.slice a1 n1 k1] 31)).alloc (.cells #[.slice a2 n2 k2] 31)).alloc (.cells #[.slice none 0 0] 31) := ⟨_, rfl⟩
  have HEs : Hid (Ex w.heap.size none w ws) := Lib.hid (by rw [hws]; exact ((Ex.new w _).alloc (by simp) _).alloc (by simp; omega) _)
  have hzs : ws.heap.size = w.heap.size + 1 + 1 + 1 := by rw [hws]; simp
  have HBs : Hid (ws.heap[w.heap.size]? = some (.cells #[.slice a1 n1 k1] 31 (0, 0)) ∧ ws.heap[w.heap.size + 1]? = some (.cells #[.slice a2 n2 k2] 31 (0, 0)) ∧ ws.heap[w.heap.size + 1 + 1]? = some (.cells #[.slice none 0 0] 31 (0, 0))) := Lib.hid (by
    rw [hws]
    have e1 := heap_alloc_new w (.cells #[.slice a1 n1 k1] 31)
    have e2 := heap_alloc_new (w.alloc (.cells #[.slice a1 n1 k1] 31)) (.cells #[.slice a2 n2 k2] 31)
    have e3 := heap_alloc_new ((w.alloc (.cells #[.slice a1 n1 k1] 31)).alloc (.cells #[.slice a2 n2 k2] 31)) (.cells #[.slice none 0 0] 31)
    have f1 := (Ex.new (w.alloc (.cells #[.slice a1 n1 k1] 31)) (.cells #[.slice a2 n2 k2] 31)).block w.heap.size (by simp) (by simp)
    have f2 := fun b hb => (Ex.new ((w.alloc (.cells #[.slice a1 n1 k1] 31)).alloc (.cells #[.slice a2 n2 k2] 31)) (.cells #[.slice none 0 0] 31)).block b hb (by simp)
    simp only [World.size_alloc] at e2 e3 f2
    exact ⟨(f2 _ (by omega)).trans (f1.trans e1), (f2 _ (by omega)).trans e2, e3⟩)
  have HQ : Hid (∀ w', Ex ws.heap.size none ws w' → w'.cell? ⟨w.heap.size, 0, none⟩ = some (.slice a1 n1 k1) ∧ w'.cell? ⟨w.heap.size + 1, 0, none⟩ = some (.slice a2 n2 k2) ∧ w'.cell? ⟨w.heap.size + 1 + 1, 0, none⟩ = some (.slice none 0 0) ∧ w'.frozen? ⟨w.heap.size + 1 + 1, 0, none⟩ = false) := Lib.hid (fun w' h => by
    have kk2 := (h.block (w.heap.size + 1 + 1) (by omega) (by simp)).trans HBs.out.2.2
    exact ⟨box_cell ((h.block w.heap.size (by omega) (by simp)).trans HBs.out.1), box_cell ((h.block (w.heap.size + 1) (by omega) (by simp)).trans HBs.out.2.1), box_cell kk2, by simp [World.frozen?, kk2]⟩)
  obtain ⟨vb, hvb⟩ : ∃ vb, vb = validB l1 := ⟨_, rfl⟩
  obtain ⟨pb, hpb⟩ : ∃ pb, pb = validB l2 := ⟨_, rfl⟩
  have HVA : Hid (∀ w', Ex ws.heap.size none ws w' → Calls Tryz.prog 46 #[.agg #[.slice a1 n1 k1]] w' fun e w'' => e = .returned (.bool vb) ∧ Ex w'.heap.size none w' w'') := Lib.hid (fun w' h => by
    rw [hvb]; exact storeValid_any _ l1 w' ⟨a1, k1, by rw [HN1.out], HX1.out w' (HEs.out.trans h (by omega) (by simp))⟩ (by rw [HN1.out]; omega) HLL1.out)
  have HVB : Hid (∀ w', Ex ws.heap.size none ws w' → Calls Tryz.prog 46 #[.agg #[.slice a2 n2 k2]] w' fun e w'' => e = .returned (.bool pb) ∧ Ex w'.heap.size none w' w'') := Lib.hid (fun w' h => by
    rw [hpb]; exact storeValid_any _ l2 w' ⟨a2, k2, by rw [HN2.out], HX2.out w' (HEs.out.trans h (by omega) (by simp))⟩ (by rw [HN2.out]; omega) HLL2.out)
  have HB1 := Lib.hid hvb
  have HB2 := Lib.hid hpb
  clear hvb hpb
  go_enter Tryz.func11, Tryz.ntmps11
  go_upto_region 1 with (fail)
  refine wp_world (fun W => W = ws) (by rw [hws]) (fun W hW => ?_)
  rw [hW]
  clear hW W hws
  obtain ⟨c0, c1, c2, z2⟩ := HQ.out _ (Ex.refl _ _ ws)
  cases vb with
  | false =>
    go_wp2_with (first
      | (go_at_call 46
         refine (HVA.out _ (Ex.refl _ _ ws)).mono ?_
         rintro e w1 ⟨rfl, hex⟩
         have HE1 : Hid (Ex ws.heap.size none ws w1) := Lib.hid (hex)
         clear hex c0 c1 c2 z2
         obtain ⟨c0, c1, c2, z2⟩ := HQ.out _ HE1.out)
      | fail)
    refine bodyPost_ret (v := .tuple #[.agg #[.slice none 0 0], .int .i64 1]) (by simp [results, Tryz.results11, go_sem, c2]) rfl ?_
    exact ⟨.slice none 0 0, [], 1, rfl, .inl ⟨by rw [← HB1.out]; rfl, rfl, rfl⟩, ⟨none, 0, rfl, SlAt.nil _ _ _⟩, (HEs.out.trans HE1.out (by omega) (by simp)).setCell _ none _ (.inr (by omega))⟩
  | true =>
  cases pb with
  | false =>
    go_wp2_with (first
      | (go_at_call 46
         refine (HVB.out _ HE1.out).mono ?_
         rintro e w2 ⟨rfl, hex⟩
         have HE2 : Hid (Ex ws.heap.size none ws w2) := Lib.hid (HE1.out.trans hex HE1.out.size (by simp))
         clear hex c0 c1 c2 z2
         obtain ⟨c0, c1, c2, z2⟩ := HQ.out _ HE2.out)
      | (go_at_call 46
         refine (HVA.out _ (Ex.refl _ _ ws)).mono ?_
         rintro e w1 ⟨rfl, hex⟩
         have HE1 : Hid (Ex ws.heap.size none ws w1) := Lib.hid (hex)
         clear hex c0 c1 c2 z2
         obtain ⟨c0, c1, c2, z2⟩ := HQ.out _ HE1.out)
      | fail)
    refine bodyPost_ret (v := .tuple #[.agg #[.slice none 0 0], .int .i64 1]) (by simp [results, Tryz.results11, go_sem, c2]) rfl ?_
    exact ⟨.slice none 0 0, [], 1, rfl, .inl ⟨by rw [← HB2.out, Bool.and_false], rfl, rfl⟩, ⟨none, 0, rfl, SlAt.nil _ _ _⟩, (HEs.out.trans HE2.out (by omega) (by simp)).setCell _ none _ (.inr (by omega))⟩
  | true =>
    have HG : Hid ((validB l1 && validB l2) = true) := Lib.hid (by rw [← HB1.out, ← HB2.out]; rfl)
    have HLT : Hid (LightL 1000000 l1 ∧ LightL 1000000 l2) := Lib.hid ⟨validB_light HB1.out.symm, validB_light HB2.out.symm⟩
    go_upto_region 6 with (first
      | (go_at_call 46
         refine (HVB.out _ HE1.out).mono ?_
         rintro e w2 ⟨rfl, hex⟩
         have HE2 : Hid (Ex ws.heap.size none ws w2) := Lib.hid (HE1.out.trans hex HE1.out.size (by simp))
         clear hex c0 c1 c2 z2
         obtain ⟨c0, c1, c2, z2⟩ := HQ.out _ HE2.out)
      | (go_at_call 46
         refine (HVA.out _ (Ex.refl _ _ ws)).mono ?_
         rintro e w1 ⟨rfl, hex⟩
         have HE1 : Hid (Ex ws.heap.size none ws w1) := Lib.hid (hex)
         clear hex c0 c1 c2 z2
         obtain ⟨c0, c1, c2, z2⟩ := HQ.out _ HE1.out)
      | (go_at_call 51
         refine (concat2St_any (P := fun b => P b ∧ b < w.heap.size) w2.heap.size a1 a2 n1 k1 n2 k2 l1 l2 _ HN1.out HN2.out hm1 hm2 (heap_alloc_new w2 _) (HX1.out _ ((HEs.out.trans HE2.out (by omega) (by simp)).trans (Ex.new w2 _) (by have := HE2.out.size; omega) (by simp))) (HX2.out _ ((HEs.out.trans HE2.out (by omega) (by simp)).trans (Ex.new w2 _) (by have := HE2.out.size; omega) (by simp)))).mono ?_
         rintro e w3 ⟨ro, rc, n, zs, rfl, hzn, hzm, hown, hzl, hex⟩
         have hz2 := HE2.out.size
         have HE3 : Hid (Ex ws.heap.size none ws w3) := Lib.hid ((HE2.out.trans (Ex.new w2 _) (by omega) (by simp)).trans hex (by simp; omega) (by simp))
         have hz3 : w2.heap.size + 1 ≤ w3.heap.size := by have := hex.size; simpa using this
         have hcap : n ≤ rc := by rcases hown.cases with ⟨_, h, h'⟩ | ⟨_, _, _, _, h⟩; (subst h'; rw [← hzn]; exact Nat.zero_le _); omega
         have hn2 : n ≤ 200000 := by have h := congrArg List.length hzm; rw [List.length_map, List.length_append, HN1.out, HN2.out] at h; omega
         have HZ : Hid ((zs.length = n ∧ zs.map (·.1) = l1 ++ l2) ∧ RowH w3 (ws.heap.size) ro zs ∧ ∀ x ∈ zs, Lies (fun b => P b ∧ b < w.heap.size) w2 x) := Lib.hid ⟨⟨hzn, hzm⟩, by
           rcases hown.cases with ⟨_, _, h⟩ | ⟨g, rfl, hg, hlt, _⟩
           · exact .inl h
           · exact .inr ⟨g, rfl, by simp at hg; omega, hlt, hown.holds stE_len⟩, fun x hx => (hzl x hx).keep fun b hb _ => ((Ex.new w2 _).block b (by have := hb.2; omega) (by simp)).symm⟩
         clear hzn hzm hown hzl hex c0 c1 c2 z2
         obtain ⟨c0, c1, c2, z2⟩ := HQ.out _ HE3.out)
      | (go_at_call 52
         refine (sortRow_any ws.heap.size ro rc n zs w3 HZ.out.2.1 HZ.out.1.1 (by omega) HE3.out.size).mono ?_
         rintro e w4 ⟨rfl, d, hrow, hds, hperm, hsort, hex⟩
         have HE4 : Hid (Ex ws.heap.size none ws w4) := Lib.hid (HE3.out.trans hex (Nat.le_refl _) (by simp))
         have HD : Hid (RowH w4 ws.heap.size ro d.toList ∧ d.size = n ∧ d.toList.Perm zs ∧ SortedIn (ltOf cmpAND) 0 d.size d) := Lib.hid ⟨hrow, hds, hperm, hsort⟩
         clear hrow hds hperm hsort hex c0 c1 c2 z2
         obtain ⟨c0, c1, c2, z2⟩ := HQ.out _ HE4.out)
      | (go_at_call 54
         refine (compRow_any ws.heap.size ro rc n d w4 HD.out.1 HD.out.2.1 (by omega) hcap HE4.out.size).mono ?_
         rintro e w5 ⟨rfl, hrow, hex⟩
         have HE5 : Hid (Ex ws.heap.size none ws w5) := Lib.hid (HE4.out.trans hex (Nat.le_refl _) (by simp))
         have HR5 := Lib.hid hrow
         obtain ⟨m, hm0⟩ : ∃ m, m = (cpt sameA d n).length := ⟨_, rfl⟩
         rw [← hm0]
         have HM0 := Lib.hid hm0
         clear hrow hex hm0 c0 c1 c2 z2
         obtain ⟨c0, c1, c2, z2⟩ := HQ.out _ HE5.out)
      | fail)
    have HMR : Hid (MergeR l1 l2 ((cpt sameA d n).map (·.1)) ∧ ((cpt sameA d n).map (·.1)).length = m) := Lib.hid ⟨mergeR_of HZ.out.1.2 HD.out.2.2.1 HD.out.2.2.2 n HD.out.2.1, by rw [List.length_map]; exact HM0.out.symm⟩
    have hmn : m ≤ 200000 := by rw [HM0.out]; exact Nat.le_trans (cpt_le _ _ _) hn2
    have HLC : Hid (∀ x ∈ cpt sameA d n, Lies (fun b => P b ∧ b < w.heap.size) w5 x) := Lib.hid (fun x hx => by
      have h1 : x ∈ d.toList := by have := HD.out.2.1; exact cpt_mem n (by omega) hx
      exact (HZ.out.2.2 x (HD.out.2.2.1.mem_iff.1 h1)).keep fun b hb _ => (HE5.out.block b (by have := hb.2; omega) (by simp)).trans (HE2.out.block b (by have := hb.2; omega) (by simp)).symm)
    by_cases hbig : 1000 < m
    · have hbI : (1000 : Int) < (m : Int) := by omega
      go_wp2
      refine bodyPost_ret (v := .tuple #[.agg #[.slice none 0 0], .int .i64 3]) (by simp [results, Tryz.results11, go_sem, c2]) rfl ?_
      exact ⟨.slice none 0 0, [], 3, rfl, .inr ⟨HG.out, _, HMR.out.1, .inl ⟨by rw [HMR.out.2]; exact hbig, rfl, rfl⟩⟩, ⟨none, 0, rfl, SlAt.nil _ _ _⟩, (HEs.out.trans HE5.out (by omega) (by simp)).setCell _ none _ (.inr (by omega))⟩
    · have hbI : ¬ (1000 : Int) < (m : Int) := by omega
      go_wp2_with (first
        | (go_at_call 50
           refine (shelfCopy_any (P := fun b => (P b ∧ b < w.heap.size) ∨ ws.heap.size ≤ b) _ ((cpt sameA d n).map (·.1)) w5 ⟨ro, rc, by rw [HMR.out.2], HR5.out.at HLC.out⟩ (by rw [HMR.out.2]; omega) (fun s hs => by
             rcases List.mem_append.1 (HMR.out.1.mem s hs) with h | h
             · exact HLT.out.1 s h
             · exact HLT.out.2 s h)).mono ?_
           rintro e w6 ⟨co, cn, cc, rfl, hcn, hown, hex⟩
           have HO6 := Lib.hid hown
           have HC6 := Lib.hid hcn
           have HE6 : Hid (Ex ws.heap.size none ws w6) := Lib.hid (HE5.out.trans hex HE5.out.size (by simp))
           have hz5 := HE5.out.size
           clear hcn hown hex c0 c1 c2 z2
           obtain ⟨c0, c1, c2, z2⟩ := HQ.out _ HE6.out)
        | fail)
      refine bodyPost_ret (v := .tuple #[.agg #[.slice co cn cc], .int .i64 0]) (by simp [results, Tryz.results11, go_sem, c2]) rfl ?_
      refine ⟨.slice co cn cc, (cpt sameA d n).map (·.1), 0, rfl, .inr ⟨HG.out, _, HMR.out.1, .inr ⟨by rw [HMR.out.2]; omega, rfl, rfl⟩⟩, ?_, (HEs.out.trans HE6.out (by omega) (by simp)).setCell _ none _ (.inr (by omega))⟩
      rw [HC6.out]
      exact (HO6.out.sl.keep (by decide) fun q hq _ => Below.heap_setCell _ _ _ _ (show q ≠ w.heap.size + 1 + 1 by omega)).mono (by decide) fun q hq _ => by omega
end Go.Proofs.YtdifcnhhcinonaaGreat

namespace Go.Proofs.YtdifcnhhcinonaaGreat
open Go.RowKit Go.Sort

/-- A statement of the author's that is right. -/
def okB (a : Int) (s : St) : Bool := decide (s.author = a) && decide (checkI s = 0) && sealedB s
theorem okB_iff {a : Int} {s : St} : okB a s = true ↔ s.author = a ∧ checkI s = 0 ∧ sealedB s = true := by
  simp only [okB, Bool.and_eq_true, decide_eq_true_eq, and_assoc]
/-- How links are held: a statement, its digest behind it. -/
def linkRep : Rep St where
  k := 14
  R := fun P w cs s => ∃ l p, cs = linkE (s, l, p) ∧ Lies P w (s, l, p)
  len := fun ⟨l, p, h, _⟩ => by subst h; exact linkE_len _
  one := fun ⟨l, p, h, _⟩ => by subst h; exact one_linkE _
  keep := fun ⟨l, p, h, hs⟩ hx => ⟨l, p, h, hs.keep hx⟩
  mono := fun ⟨l, p, h, hs⟩ hx => ⟨l, p, h, hs.mono hx⟩
def sameDigS (s t : St) : Bool := s.dig.toList == t.dig.toList
/-- What stays of a row of which neighbours with one digest are dropped. -/
def cptL (d : List St) : List St := cpt sameDigS d.toArray d.length
/-- ls: the right statements of an author, sorted by number and digest, neighbours with one digest dropped. -/
def LinksR (a : Int) (l ls : List St) : Prop := ∃ d : List St, d.Perm (l.filter (okB a)) ∧ (∀ (i j : Nat) (x y : St), i < j → d[i]? = some x → d[j]? = some y → ltNDs y x = false) ∧ ls = cptL d
theorem link_sl {P : Nat → Prop} {w : World} {g : Nat} {xs : List (St × Sv × Sv)} (hP : P g) (h : HoldsK linkE 14 w g 0 xs.toArray) (hl : ∀ x ∈ xs, Lies P w x) : SlAt linkRep P w (some ⟨g, 0, none⟩) (xs.map (·.1)) := fun i hi => by
  have hi' : i < xs.length := by simpa using hi
  refine ⟨g, 0, linkE xs[i], rfl, hP, ?_, xs[i].2.1, xs[i].2.2, by simp, by simpa using hl _ (List.getElem_mem hi')⟩
  have := holdsK_range linkE_len h i (by simpa using hi')
  rwa [getElem!_pos xs.toArray i hi', List.getElem_toArray] at this
theorem linksR_of {a : Int} {l : List St} {acc : List (St × Sv × Sv)} {d' : Array (St × Sv × Sv)} (h : acc.map (·.1) = l.filter (okB a)) (hp : d'.toList.Perm acc) (hs : SortedIn (ltOf cmpND) 0 d'.size d') (n : Nat) (hn : d'.size = n) : LinksR a l ((cpt sameDig d' n).map (·.1)) := by
  subst hn
  refine ⟨d'.toList.map (·.1), by rw [← h]; exact hp.map _, fun i j x y hij hi hj => ?_, ?_⟩
  · have hj' : j < d'.size := by have := (List.getElem?_eq_some_iff.1 hj).1; simpa using this
    have hi' : i < d'.size := by omega
    have k := hs i j (Nat.zero_le _) hij hj'
    rw [ltND_of, getElem!_pos d' i hi', getElem!_pos d' j hj'] at k
    simp only [List.getElem?_map, Array.getElem?_toList, Array.getElem?_eq_getElem hi', Array.getElem?_eq_getElem hj', Option.map_some, Option.some.injEq] at hi hj
    rw [← hi, ← hj]; exact k
  · rw [cpt_map (fun x : St × Sv × Sv => x.1) (eq := sameDig) (eq' := sameDigS) (fun _ _ => rfl) d' d'.size (Nat.le_refl _)]
    rw [show d'.map (fun x : St × Sv × Sv => x.1) = (d'.toList.map (fun x => x.1)).toArray by apply Array.ext'; simp]
    simp only [cptL, List.length_map, Array.length_toList]
theorem LinksR.ok {a : Int} {l ls : List St} (h : LinksR a l ls) : ∀ s ∈ ls, okB a s = true := fun s hs => by
  obtain ⟨d, hp, _, rfl⟩ := h
  have h1 : s ∈ d := by simpa using cpt_mem d.length (by simp) hs
  exact (List.mem_filter.1 (hp.mem_iff.1 h1)).2
theorem Tryz.infoLink : (Tryz.prog.info? 192).map (fun i => (i.zero, i.size, i.bytes)) = some (some (.agg #[.int .i64 0, .int .i64 0, .string ⟨#[]⟩, .int .i64 0, .int .i64 0, .int .i64 0, .int .i64 0, .int .i64 0, .slice none 0 0, .slice none 0 0, .string ⟨#[]⟩, .int .i64 0, .string ⟨#[]⟩, .string ⟨#[]⟩]), 14, 176) := by kernel_rfl

set_option maxHeartbeats 16000000 in
set_option maxRecDepth 100000 in
theorem links_any {P : Nat → Prop} (v : Value) (l : List St) (a : Int) (w : World) (hv : Sl stRep P w v l) (hm : l.length ≤ 100000) (hL : LightL 9223372036854775807 l) :
    Calls Tryz.prog 170 #[.int .i64 a, v] w fun e w' => ∃ u ls, e = .returned u ∧ LinksR a l ls ∧ Sl linkRep (fun b => P b ∨ w.heap.size ≤ b) w' u ls ∧ ls.length ≤ l.length ∧ Ex w.heap.size none w w' := by
  obtain ⟨ao, cap, rfl, hx⟩ := hv
  have HX := Lib.hid hx
  have HLL := Lib.hid hL
  clear hx hL
  go_enter Tryz.func170, Tryz.ntmps170
  go_wp2
  go_loopw [5, 10] (fun v i wr => ∃ (k n : Nat) (ro : Option Addr) (rc : Nat) (acc : List (St × Sv × Sv)), k ≤ l.length ∧ i = .int .i64 k ∧ v = .slice ro n rc ∧ Hid (acc.map (·.1) = (l.take k).filter (okB a) ∧ acc.length = n ∧ n ≤ k ∧ ∀ x ∈ acc, Lies P w x) ∧ OwnE linkE 14 192 wr w.heap.size ro rc acc ∧ Ex w.heap.size none w wr) (fun _ i _ => l.length - (intOf i).toNat)
  case atStart => exact ⟨0, 0, none, 0, [], by omega, rfl, rfl, Lib.hid ⟨by simp, rfl, by omega, fun x hx => by cases hx⟩, OwnE.nil _ _ _ _ _, Ex.refl _ _ _⟩
  case round =>
    obtain ⟨k, n, ro, rc, acc, hk, rfl, rfl, HA, hown, hex⟩ := hrel
    have hsz := hex.size
    have HEX := Lib.hid hex
    have HO := Lib.hid hown
    clear hown
    by_cases hlt : k < l.length
    · have hltI : (k : Int) < (l.length : Int) := by omega
      have hnk : n ≤ k := HA.out.2.2.1
      obtain ⟨b, off, s, ⟨lo, ln, lc⟩, ⟨po, pn, pc⟩, rfl, _, hls0, hr, HXs⟩ := st_get HX.out k hlt
      have HLG : Hid (s.list.length ≤ 9223372036854775807 ∧ s.pins.length ≤ 9223372036854775807) := Lib.hid (HLL.out s (List.mem_of_getElem? HXs.out))
      have HLN : Hid (ln = s.list.length) := by obtain ⟨⟨_, _, e, _⟩, _⟩ := hls0; simp only [Sv.v] at e; cases e; exact rfl
      have HPN : Hid (pn = s.pins.length) := by obtain ⟨_, ⟨_, _, e, _⟩⟩ := hls0; simp only [Sv.v] at e; cases e; exact rfl
      have hc := st_at (rangeAt_keep hr (hex.block b (rangeAt_lt hr (by rw [stE_len]; omega)) (by simp)))
      simp only [Sv.v] at hc
      obtain ⟨c0, c1, c2, c3, c4, c5, c6, c7, c8, c9, c10, c11, c12⟩ := hc
      have HLS0 := Lib.hid hls0
      clear hls0 hr hex
      go_upto_region 5 with (fail)
      obtain ⟨ws, hws⟩ : ∃ ws : World, ws = wr.alloc (.cells #[.int .i64 s.author, .int .i64 s.number, .string s.prev, .int .i64 s.time, .int .i64 s.kind, .int .i64 s.a, .int .i64 s.b, .int .i64 s.c, .slice lo ln lc, .slice po pn pc, .string s.body, .int .i64 s.key, .string s.dig] 28) := ⟨_, rfl⟩
      have HEs : Hid (Ex wr.heap.size none wr ws) := Lib.hid (by rw [hws]; exact Ex.new wr _)
      have hzs : ws.heap.size = wr.heap.size + 1 := by rw [hws]; simp
      have HBs : Hid (ws.heap[wr.heap.size]? = some (.cells #[.int .i64 s.author, .int .i64 s.number, .string s.prev, .int .i64 s.time, .int .i64 s.kind, .int .i64 s.a, .int .i64 s.b, .int .i64 s.c, .slice lo ln lc, .slice po pn pc, .string s.body, .int .i64 s.key, .string s.dig] 28 (0, 0))) := Lib.hid (by rw [hws]; exact heap_alloc_new wr _)
      have HQ : Hid (∀ w', Ex ws.heap.size none ws w' → w'.cell? ⟨wr.heap.size, 0, none⟩ = some (.int .i64 s.author) ∧ w'.cell? ⟨wr.heap.size, 1, none⟩ = some (.int .i64 s.number) ∧ w'.cell? ⟨wr.heap.size, 2, none⟩ = some (.string s.prev) ∧ w'.cell? ⟨wr.heap.size, 3, none⟩ = some (.int .i64 s.time) ∧ w'.cell? ⟨wr.heap.size, 4, none⟩ = some (.int .i64 s.kind) ∧ w'.cell? ⟨wr.heap.size, 5, none⟩ = some (.int .i64 s.a) ∧ w'.cell? ⟨wr.heap.size, 6, none⟩ = some (.int .i64 s.b) ∧ w'.cell? ⟨wr.heap.size, 7, none⟩ = some (.int .i64 s.c) ∧ w'.cell? ⟨wr.heap.size, 8, none⟩ = some (.slice lo ln lc) ∧ w'.cell? ⟨wr.heap.size, 9, none⟩ = some (.slice po pn pc) ∧ w'.cell? ⟨wr.heap.size, 10, none⟩ = some (.string s.body) ∧ w'.cell? ⟨wr.heap.size, 11, none⟩ = some (.int .i64 s.key) ∧ w'.cell? ⟨wr.heap.size, 12, none⟩ = some (.string s.dig)) := Lib.hid (fun w' h => (st_block ((h.block wr.heap.size (by omega) (by simp)).trans HBs.out)).1)
      have HLS : Hid (∀ w', Ex ws.heap.size none ws w' → Lies P w' (s, ⟨lo, ln, lc⟩, ⟨po, pn, pc⟩)) := Lib.hid (fun w' h => HLS0.out.keep fun b _ hb => (h.block b (by omega) (by simp)).trans ((HEs.out.block b (by omega) (by simp)).trans (HEX.out.block b hb (by simp))))
      obtain ⟨q, hq0⟩ : ∃ q, q = checkI s := ⟨_, rfl⟩
      have HCQ : Hid (checkI s = q) := Lib.hid hq0.symm
      have HCK : Hid (∀ w', Ex ws.heap.size none ws w' → Calls Tryz.prog 47 #[.agg #[.int .i64 s.author, .int .i64 s.number, .string s.prev, .int .i64 s.time, .int .i64 s.kind, .int .i64 s.a, .int .i64 s.b, .int .i64 s.c, .slice lo ln lc, .slice po pn pc, .string s.body, .int .i64 s.key, .string s.dig]] w' fun e w'' => e = .returned (.int .i64 q) ∧ Ex w'.heap.size none w' w'') := Lib.hid (fun w' h => by rw [hq0]; exact checkP_any s lo po ln lc pn pc w' (HLS.out w' h) (by rw [HLN.out, HPN.out]; exact HLG.out))
      clear hq0
      rw [← hws]
      clear hws c0 c1 c2 c3 c4 c5 c6 c7 c8 c9 c10 c11 c12
      obtain ⟨d0, d1, d2, d3, d4, d5, d6, d7, d8, d9, d10, d11, d12⟩ := HQ.out _ (Ex.refl _ _ ws)
      by_cases t1 : s.author = a
      case neg =>
        have k1 : (s.author == a) = false := by simpa using t1
        have HNO : Hid (okB a s = false) := Lib.hid (by simp [okB, t1])
        clear t1
        go_wp2_with (fail)
        go_roundw
        case rel => exact ⟨k + 1, n, ro, rc, acc, by omega, by go_num, rfl, Lib.hid ⟨by rw [filter_no HXs.out HNO.out]; exact HA.out.1, HA.out.2.1, by have := HA.out.2.2.1; omega, HA.out.2.2.2⟩, HO.out.keep (HEs.out.trans (Ex.refl ws.heap.size none ws) (by omega) (by simp)) (Nat.le_refl _) (by simp), HEX.out.trans (HEs.out.trans (Ex.refl ws.heap.size none ws) (by omega) (by simp)) hsz (by simp)⟩
        case measure => simp [intOf] <;> omega
      have k1 : (s.author == a) = true := by simpa using t1
      have HT1 := Lib.hid t1
      clear t1
      by_cases t2 : q = 0
      case neg =>
        have k2 : (q == 0) = false := by simpa using t2
        have HNO : Hid (okB a s = false) := Lib.hid (by simp [okB, HCQ.out, t2])
        clear t2
        go_wp2_with (first
          | (go_at_call 47
             refine (HCK.out _ (Ex.refl _ _ ws)).mono ?_
             rintro e w7 ⟨rfl, hex7⟩
             have HE7 : Hid (Ex ws.heap.size none ws w7) := Lib.hid hex7
             have hz7 : ws.heap.size ≤ w7.heap.size := hex7.size
             clear hex7 d0 d1 d2 d3 d4 d5 d6 d7 d8 d9 d10 d11 d12
             obtain ⟨d0, d1, d2, d3, d4, d5, d6, d7, d8, d9, d10, d11, d12⟩ := HQ.out _ HE7.out)
          | fail)
        go_roundw
        case rel => exact ⟨k + 1, n, ro, rc, acc, by omega, by go_num, rfl, Lib.hid ⟨by rw [filter_no HXs.out HNO.out]; exact HA.out.1, HA.out.2.1, by have := HA.out.2.2.1; omega, HA.out.2.2.2⟩, HO.out.keep (HEs.out.trans HE7.out (by omega) (by simp)) (Nat.le_refl _) (by simp), HEX.out.trans (HEs.out.trans HE7.out (by omega) (by simp)) hsz (by simp)⟩
        case measure => simp [intOf] <;> omega
      have k2 : (q == 0) = true := by simpa using t2
      have HT2 : Hid (checkI s = 0) := Lib.hid (HCQ.out.trans t2)
      have HTM := Lib.hid (checkI_tame HT2.out)
      clear t2
      cases t3 : sealedB s with
      | false =>
        have HNO : Hid (okB a s = false) := Lib.hid (by simp [okB, t3])
        have HSL : Hid (∀ w', Ex ws.heap.size none ws w' → Calls Tryz.prog 48 #[.agg #[.int .i64 s.author, .int .i64 s.number, .string s.prev, .int .i64 s.time, .int .i64 s.kind, .int .i64 s.a, .int .i64 s.b, .int .i64 s.c, .slice lo ln lc, .slice po pn pc, .string s.body, .int .i64 s.key, .string s.dig]] w' fun e w'' => e = .returned (.bool false) ∧ Ex w'.heap.size none w' w'') := Lib.hid (fun w' h => asB (sealedP_any s lo po ln lc pn pc w' (HLS.out w' h) HTM.out) t3)
        clear t3
        go_wp2_with (first
          | (go_at_call 47
             refine (HCK.out _ (Ex.refl _ _ ws)).mono ?_
             rintro e w7 ⟨rfl, hex7⟩
             have HE7 : Hid (Ex ws.heap.size none ws w7) := Lib.hid hex7
             have hz7 : ws.heap.size ≤ w7.heap.size := hex7.size
             clear hex7 d0 d1 d2 d3 d4 d5 d6 d7 d8 d9 d10 d11 d12
             obtain ⟨d0, d1, d2, d3, d4, d5, d6, d7, d8, d9, d10, d11, d12⟩ := HQ.out _ HE7.out)
          | (go_at_call 48
             refine (HSL.out _ HE7.out).mono ?_
             rintro e w8 ⟨rfl, hex8⟩
             have HE8 : Hid (Ex ws.heap.size none ws w8) := Lib.hid (HE7.out.trans hex8 hz7 (by simp))
             have hz8 : ws.heap.size ≤ w8.heap.size := HE8.out.size
             clear hex8 d0 d1 d2 d3 d4 d5 d6 d7 d8 d9 d10 d11 d12
             obtain ⟨d0, d1, d2, d3, d4, d5, d6, d7, d8, d9, d10, d11, d12⟩ := HQ.out _ HE8.out)
          | fail)
        go_roundw
        case rel => exact ⟨k + 1, n, ro, rc, acc, by omega, by go_num, rfl, Lib.hid ⟨by rw [filter_no HXs.out HNO.out]; exact HA.out.1, HA.out.2.1, by have := HA.out.2.2.1; omega, HA.out.2.2.2⟩, HO.out.keep (HEs.out.trans HE8.out (by omega) (by simp)) (Nat.le_refl _) (by simp), HEX.out.trans (HEs.out.trans HE8.out (by omega) (by simp)) hsz (by simp)⟩
        case measure => simp [intOf] <;> omega
      | true =>
        have HYES : Hid (okB a s = true) := Lib.hid (okB_iff.2 ⟨HT1.out, HT2.out, t3⟩)
        have HSL : Hid (∀ w', Ex ws.heap.size none ws w' → Calls Tryz.prog 48 #[.agg #[.int .i64 s.author, .int .i64 s.number, .string s.prev, .int .i64 s.time, .int .i64 s.kind, .int .i64 s.a, .int .i64 s.b, .int .i64 s.c, .slice lo ln lc, .slice po pn pc, .string s.body, .int .i64 s.key, .string s.dig]] w' fun e w'' => e = .returned (.bool true) ∧ Ex w'.heap.size none w' w'') := Lib.hid (fun w' h => asB (sealedP_any s lo po ln lc pn pc w' (HLS.out w' h) HTM.out) t3)
        clear t3
        have HAL : Hid (acc.length = n) := Lib.hid HA.out.2.1
        go_wp2_with (first
          | (go_at_call 47
             refine (HCK.out _ (Ex.refl _ _ ws)).mono ?_
             rintro e w7 ⟨rfl, hex7⟩
             have HE7 : Hid (Ex ws.heap.size none ws w7) := Lib.hid hex7
             have hz7 : ws.heap.size ≤ w7.heap.size := hex7.size
             clear hex7 d0 d1 d2 d3 d4 d5 d6 d7 d8 d9 d10 d11 d12
             obtain ⟨d0, d1, d2, d3, d4, d5, d6, d7, d8, d9, d10, d11, d12⟩ := HQ.out _ HE7.out)
          | (go_at_call 48
             refine (HSL.out _ HE7.out).mono ?_
             rintro e w8 ⟨rfl, hex8⟩
             have HE8 : Hid (Ex ws.heap.size none ws w8) := Lib.hid (HE7.out.trans hex8 hz7 (by simp))
             have hz8 : ws.heap.size ≤ w8.heap.size := HE8.out.size
             clear hex8 d0 d1 d2 d3 d4 d5 d6 d7 d8 d9 d10 d11 d12
             obtain ⟨d0, d1, d2, d3, d4, d5, d6, d7, d8, d9, d10, d11, d12⟩ := HQ.out _ HE8.out)
          | (at_builtin; refine wpList_appE2 rfl (.tmp 27) (.tmp 33) _ 192 (by rfl) Tryz.underlying189 _ 14 176 Tryz.infoLink rfl (by decide) (by decide) linkE linkE_len one_linkE w.heap.size ro rc n acc HAL.out (by rfl) (some ⟨w8.heap.size, 0, none⟩) 1 1 (by rfl) [(s, ⟨lo, ln, lc⟩, ⟨po, pn, pc⟩)] rfl ((HO.out.keep (HEs.out.trans HE8.out (by omega) (by simp)) (Nat.le_refl _) (by simp)).keep (Ex.new w8 _) (Nat.le_refl _) (by simp)) (lit_cells (by rfl)) (by omega) (by simp; omega) (n + 1) rfl ?_; intro ro2 rc2 w6 hown6 hex6 _ _)
          | fail)
        have HO6 := Lib.hid hown6
        have HE6 : Hid (Ex w.heap.size none w w6) := Lib.hid (((HEX.out.trans (HEs.out.trans HE8.out (by omega) (by simp)) hsz (by simp)).trans (Ex.new w8 _) (by omega) (by simp)).trans hex6 (Nat.le_refl _) (by simp))
        clear hown6 hex6
        go_roundw
        case rel => exact ⟨k + 1, n + 1, ro2, rc2, acc ++ [(s, ⟨lo, ln, lc⟩, ⟨po, pn, pc⟩)], by omega, by go_num, rfl, Lib.hid ⟨by rw [filter_yes HXs.out HYES.out, List.map_append, HA.out.1]; rfl, by rw [List.length_append, HAL.out]; rfl, by omega, fun x hx => by
          rcases List.mem_append.1 hx with h | h
          · exact HA.out.2.2.2 x h
          · rw [List.mem_singleton.1 h]; exact HLS0.out⟩, HO6.out, HE6.out⟩
        case measure => simp [intOf] <;> omega
    · obtain rfl : k = l.length := by omega
      have hnk : n ≤ l.length := HA.out.2.2.1
      have HF : Hid (acc.map (·.1) = l.filter (okB a)) := Lib.hid (by have := HA.out.1; rwa [List.take_length] at this)
      have HAL : Hid (acc.length = n) := Lib.hid HA.out.2.1
      clear hex
      rcases HO.out.cases with ⟨e1, e2, e3⟩ | ⟨g, e1, hg1, hg2, hg3⟩
      · subst e1 e2
        have hn0 : n = 0 := by rw [← HAL.out, e3]; rfl
        have HLR : Hid (LinksR a l []) := Lib.hid (by
          have h := HF.out
          rw [e3] at h
          exact ⟨[], by rw [← h]; exact List.Perm.refl _, fun i j x y _ h => by simp at h, rfl⟩)
        clear e3
        subst hn0
        go_wp2_with (first
          | (go_at_call 216; refine (sortLink_none _ _ _ _).mono ?_; rintro e w' ⟨rfl, rfl⟩)
          | (go_at_call 218; refine (compactLink_none _ _ _ _).mono ?_; rintro e w' ⟨rfl, rfl⟩)
          | fail)
        go_ret
        exact ⟨_, [], rfl, HLR.out, Sl.nil _ _, by simp, HEX.out⟩
      · subst e1
        have HH : Hid (HoldsK linkE 14 wr g 0 acc.toArray) := Lib.hid (HO.out.holds linkE_len)
        have hcap : n ≤ rc := by rw [← HAL.out]; exact hg3
        have HSZ : Hid (acc.toArray.size = n) := Lib.hid (by simpa using HAL.out)
        go_wp2_with (first
          | (go_at_call 216
             refine (sortLink_any g 0 rc n acc.toArray wr HH.out hg2 HSZ.out (by omega)).mono ?_
             rintro e w1 ⟨rfl, d', hH1, hd1, hp1, hs1, hex1⟩
             have HD : Hid (HoldsK linkE 14 w1 g 0 d' ∧ d'.size = n ∧ d'.toList.Perm acc ∧ SortedIn (ltOf cmpND) 0 d'.size d' ∧ Ex wr.heap.size (some g) wr w1) := Lib.hid ⟨hH1, hd1, by simpa using hp1, hs1, hex1⟩
             have hz1 : wr.heap.size ≤ w1.heap.size := hex1.size
             clear hH1 hd1 hp1 hs1 hex1)
          | (go_at_call 218
             refine (compactLinks_any g rc n d' w1 HD.out.1 (by omega) HD.out.2.1 (by omega) hcap).mono ?_
             rintro e w2 ⟨rfl, hH2, hex2⟩
             have HC : Hid (HoldsK linkE 14 w2 g 0 (cpt sameDig d' n).toArray ∧ Ex w1.heap.size (some g) w1 w2) := Lib.hid ⟨hH2, hex2⟩
             clear hH2 hex2)
          | fail)
        go_ret
        have hE : Ex w.heap.size none w w2 := HEX.out.trans (HD.out.2.2.2.2.trans HC.out.2 hz1 (fun q h _ => h)) hsz (fun q h hq => by cases h; omega)
        refine ⟨.slice (some ⟨g, 0, none⟩) (cpt sameDig d' n).length rc, (cpt sameDig d' n).map (·.1), by rfl, linksR_of HF.out HD.out.2.2.1 HD.out.2.2.2.1 n HD.out.2.1, ⟨some ⟨g, 0, none⟩, rc, by rw [List.length_map], link_sl (.inr hg1) HC.out.1 fun x hx => ?_⟩, ?_, hE⟩
        · have hmem : x ∈ acc := HD.out.2.2.1.mem_iff.1 (cpt_mem n (by rw [HD.out.2.1]; exact Nat.le_refl _) hx)
          exact (HA.out.2.2.2 x hmem).keep (fun b _ hb => hE.block b hb (by simp)) |>.mono fun _ hb _ => .inl hb
        · have := cpt_le sameDig d' n
          rw [List.length_map]; omega
end Go.Proofs.YtdifcnhhcinonaaGreat

namespace Go.Proofs.YtdifcnhhcinonaaGreat
open Go.RowKit Go.Sort

theorem link_get {P : Nat → Prop} {w : World} {ao : Option Addr} {xs : List St} (h : SlAt linkRep P w ao xs) (i : Nat) (hi : i < xs.length) : ∃ b off s l p, ao = some ⟨b, off, none⟩ ∧ P b ∧ Lies P w (s, l, p) ∧ w.rangeAt b (off + i * 14) (linkE (s, l, p)) ∧ Hid (xs[i]? = some s) := by
  obtain ⟨b, off, cs, s, e, hp, hr, ⟨l, p, rfl, hl⟩, hx⟩ := h.get i hi
  exact ⟨b, off, s, l, p, e, hp, hl, hr, hx⟩
/-- The first two neighbours with one number. -/
def forkF : List St → Option (St × St)
  | s :: t :: r => if s.number = t.number then some (s, t) else forkF (t :: r)
  | _ => none
/-- The cells of a fork: of none: all nought. -/
def ForkC (w : World) (base : Nat) (cs : Array Value) : Option (St × St) → Prop
  | none => cs = #[.int .i64 0, .int .i64 0, .string ⟨#[]⟩, .int .i64 0, .int .i64 0, .int .i64 0, .int .i64 0, .int .i64 0, .slice none 0 0, .slice none 0 0, .string ⟨#[]⟩, .int .i64 0, .string ⟨#[]⟩, .int .i64 0, .int .i64 0, .string ⟨#[]⟩, .int .i64 0, .int .i64 0, .int .i64 0, .int .i64 0, .int .i64 0, .slice none 0 0, .slice none 0 0, .string ⟨#[]⟩, .int .i64 0, .string ⟨#[]⟩]
  | some (s, t) => ∃ (la : Option Addr) (na ca : Nat) (pa : Option Addr) (np cp : Nat) (lb : Option Addr) (nb cb : Nat) (pb : Option Addr) (nq cq : Nat), cs = #[.int .i64 s.author, .int .i64 s.number, .string s.prev, .int .i64 s.time, .int .i64 s.kind, .int .i64 s.a, .int .i64 s.b, .int .i64 s.c, .slice la na ca, .slice pa np cp, .string s.body, .int .i64 s.key, .string s.dig, .int .i64 t.author, .int .i64 t.number, .string t.prev, .int .i64 t.time, .int .i64 t.kind, .int .i64 t.a, .int .i64 t.b, .int .i64 t.c, .slice lb nb cb, .slice pb nq cq, .string t.body, .int .i64 t.key, .string t.dig] ∧ Lies (fun b => base ≤ b) w (s, ⟨la, na, ca⟩, ⟨pa, np, cp⟩) ∧ Lies (fun b => base ≤ b) w (t, ⟨lb, nb, cb⟩, ⟨pb, nq, cq⟩)
end Go.Proofs.YtdifcnhhcinonaaGreat

namespace Go.Proofs.YtdifcnhhcinonaaGreat
open Go.RowKit Go.Sort

theorem rowStore_lkv (a : Addr) (v : Value) : storeVar 192 a v = rowStore 192 a v := rfl
theorem rowLoad_lkv (a : Addr) : loadVar 192 a = rowLoad 192 a := rfl
theorem Tryz.sizeLkv : (Tryz.prog.info? 192).map (·.size) = some 14 := by kernel_rfl
attribute [local go_sem ↓] rowLoad_stv rowStore_stv rowLoad_lkv rowStore_lkv
/-- A link as a value. -/
def linkV (x : St × Sv × Sv) : Value := .agg (linkE x).toArray
theorem linkV_cells (x : St × Sv × Sv) : (linkV x).cells = (linkE x).toArray := rfl
theorem linkV_one (x : St × Sv × Sv) : (linkV x).cells.all (·.oneCell') = true := by
  rw [Array.all_eq_true_iff_forall_mem]
  intro v hv
  exact one_linkE x v (by simpa [linkV_cells] using hv)
theorem linkV_load {w : World} {b o : Nat} {x : St × Sv × Sv} (h : w.rangeAt b o (linkE x)) : (rowLoad 192 ⟨b, o, none⟩).run Tryz.prog w = .ok (linkV x) w :=
  run_loadVar_mid w b o 192 (linkE x) _ h Tryz.underlying192 rfl Tryz.sizeLkv
theorem linkV_box {w : World} {g : Nat} {x : St × Sv × Sv} {t : TypeId} {fr : Nat × Nat} (h : w.heap[g]? = some (.cells (linkV x).cells t fr)) : (rowLoad 192 ⟨g, 0, none⟩).run Tryz.prog w = .ok (linkV x) w :=
  run_rowLoad (P := Tryz.prog) w g t 192 (linkE x).toArray fr _ h Tryz.underlying192 rfl Tryz.sizeLkv
theorem linkV_new (w : World) (old : Array Value) (x : St × Sv × Sv) (ho : old.size = 14) : (rowStore 192 ⟨w.heap.size, 0, none⟩ (linkV x)).run Tryz.prog (w.alloc (.cells old 192)) = .ok () (w.alloc (.cells (linkV x).cells 192)) := by
  have h := run_rowStore (P := Tryz.prog) (w.alloc (.cells old 192)) w.heap.size 192 192 old (linkV x).cells (heap_alloc_new w _) Tryz.sizeLkv (by rw [ho]; rfl) (linkV_one x)
  rw [alloc_setRow] at h
  exact h
/-- The cells of a link in a block of its own. -/
theorem linkV_cell {w : World} {g : Nat} {x : St × Sv × Sv} {t : TypeId} {fr : Nat × Nat} (h : w.heap[g]? = some (.cells (linkV x).cells t fr)) (j : Nat) : w.cell? ⟨g, j, none⟩ = (linkE x)[j]? := by
  rw [cell_of_row _ _ _ _ _ _ h, linkV_cells]
  simp
theorem linkV_cells5 {w : World} {g : Nat} {x : St × Sv × Sv} {t : TypeId} {fr : Nat × Nat} (h : w.heap[g]? = some (.cells (linkV x).cells t fr)) : w.cell? ⟨g, 0, none⟩ = some (.int .i64 x.1.author) ∧ w.cell? ⟨g, 1, none⟩ = some (.int .i64 x.1.number) ∧ w.cell? ⟨g, 2, none⟩ = some (.string x.1.prev) ∧ w.cell? ⟨g, 3, none⟩ = some (.int .i64 x.1.time) ∧ w.cell? ⟨g, 13, none⟩ = some (.string x.1.dig) :=
  ⟨linkV_cell h 0, linkV_cell h 1, linkV_cell h 2, linkV_cell h 3, linkV_cell h 13⟩
/-- The statement of a link in a block of its own. -/
theorem linkV_st {w : World} {g : Nat} {x : St × Sv × Sv} {t : TypeId} {fr : Nat × Nat} (h : w.heap[g]? = some (.cells (linkV x).cells t fr)) : (rowLoad 28 ⟨g, 0, none⟩).run Tryz.prog w = .ok (stV x) w :=
  stV_load fun j v hj => by
    rw [Nat.zero_add, linkV_cell h]
    have : linkE x = stE x ++ [.string x.1.dig] := rfl
    rw [this, List.getElem?_append_left (List.getElem?_eq_some_iff.1 hj).1]
    exact hj
theorem lkv_get {P : Nat → Prop} {w : World} {ao : Option Addr} {l : List St} (h : SlAt linkRep P w ao l) (k : Nat) (hk : k < l.length) :
    ∃ b off x, ao = some ⟨b, off, none⟩ ∧ P b ∧ b < w.heap.size ∧ Hid (l[k]? = some x.1) ∧ Lies P w x ∧ Hid (w.rangeAt b (off + k * 14) (linkE x)) := by
  obtain ⟨b, off, s, l', p, e, hp, hl, hr, hx⟩ := link_get h k hk
  exact ⟨b, off, (s, l', p), e, hp, rangeAt_lt hr (by rw [linkE_len]; decide), hx, hl, Lib.hid hr⟩
theorem copied_v {P : Nat → Prop} (x : St × Sv × Sv) (w : World) (h : Lies P w x) (hm : x.1.list.length ≤ 1000000 ∧ x.1.pins.length ≤ 1000000) :
    Calls Tryz.prog 172 #[stV x] w fun e w' => ∃ y, e = .returned (stV y) ∧ y.1 = x.1 ∧ Lies (fun b => w.heap.size ≤ b) w' y ∧ Ex w.heap.size none w w' := by
  obtain ⟨s, ⟨lo, ln, lc⟩, ⟨po, pn, pc⟩⟩ := x
  exact (copied_any s lo po ln lc pn pc w h hm).mono fun e w' ⟨la, na, ca, pa, np, cp, h1, h2, h3⟩ => ⟨(s, ⟨la, na, ca⟩, ⟨pa, np, cp⟩), h1, rfl, h2, h3⟩
/-- A link follows another. -/
def followsL (a b : St) : Bool := decide (b.author = a.author) && decide (a.number < b.number) && decide (b.number - 1 = a.number) && (b.prev.toList == a.dig.toList) && decide (a.time ≤ b.time)
theorem followsL_iff {a b : St} : followsL a b = true ↔ b.author = a.author ∧ b.number = a.number + 1 ∧ b.prev = a.dig ∧ a.time ≤ b.time := by
  unfold followsL
  rw [toListB]
  simp only [Bool.and_eq_true, decide_eq_true_eq]
  constructor
  · rintro ⟨⟨⟨⟨h1, h2⟩, h3⟩, h4⟩, h5⟩
    exact ⟨h1, by omega, h4, h5⟩
  · rintro ⟨h1, h2, h4, h5⟩
    exact ⟨⟨⟨⟨h1, by omega⟩, by omega⟩, h4⟩, h5⟩
set_option maxHeartbeats 4000000 in
set_option maxRecDepth 100000 in
theorem follows_v (x y : St × Sv × Sv) (w : World) (hx : -9223372036854775808 ≤ x.1.number) (hy : y.1.number ≤ 9223372036854775807) :
    Calls Tryz.prog 171 #[linkV x, linkV y] w fun e w' => e = .returned (.bool (followsL x.1 y.1)) ∧ Ex w.heap.size none w w' := by
  obtain ⟨s, hs⟩ : ∃ s, s = x.1 := ⟨_, rfl⟩
  obtain ⟨t, ht⟩ : ∃ t, t = y.1 := ⟨_, rfl⟩
  obtain ⟨ws, hws⟩ : ∃ ws : World, ws = (w.alloc (.cells (linkV x).cells 192)).alloc (.cells (linkV y).cells 192) := ⟨_, rfl⟩
  have HEs : Hid (Ex w.heap.size none w ws) := Lib.hid (by rw [hws]; exact (Ex.new w _).alloc (by simp) _)
  have h2 : ws.heap[w.heap.size + 1]? = some (.cells (linkV y).cells 192 (0, 0)) := by
    rw [hws]
    have := heap_alloc_new (w.alloc (.cells (linkV x).cells 192)) (.cells (linkV y).cells 192)
    rwa [World.size_alloc] at this
  have h1 : ws.heap[w.heap.size]? = some (.cells (linkV x).cells 192 (0, 0)) := by
    rw [hws]
    exact ((Ex.new (w.alloc (.cells (linkV x).cells 192)) _).block w.heap.size (by simp) (by simp)).trans (heap_alloc_new w _)
  obtain ⟨a0, a1, a2, a3, a13⟩ := linkV_cells5 h1
  obtain ⟨b0, b1, b2, b3, b13⟩ := linkV_cells5 h2
  rw [← hs] at a0 a1 a2 a3 a13 hx ⊢
  rw [← ht] at b0 b1 b2 b3 b13 hy ⊢
  clear h1 h2 hs ht
  go_enter Tryz.func171, Tryz.ntmps171
  go_upto_region 1 with (fail)
  refine wp_world (fun W => W = ws) (by rw [hws]; rfl) (fun W hW => ?_)
  rw [hW]
  clear hW W hws
  by_cases t1 : t.author = s.author
  case neg =>
    have k1 : (t.author == s.author) = false := by simpa using t1
    have HF : Hid (followsL s t = false) := Lib.hid (by simp [followsL, t1])
    clear t1
    go_wp2
    go_ret
    exact ⟨by rw [HF.out]; rfl, HEs.out⟩
  have k1 : (t.author == s.author) = true := by simpa using t1
  have HT1 := Lib.hid t1
  clear t1
  by_cases t2 : s.number < t.number
  case neg =>
    have k2 : decide (s.number < t.number) = false := decide_eq_false t2
    have HF : Hid (followsL s t = false) := Lib.hid (by simp [followsL, k2])
    clear t2
    go_wp2
    go_ret
    exact ⟨by rw [HF.out]; rfl, HEs.out⟩
  have k2 : decide (s.number < t.number) = true := decide_eq_true t2
  have kw : IntKind.i64.wrap (t.number - 1) = t.number - 1 := by rw [IntKind.wrap_i64]; omega
  by_cases t3 : t.number - 1 = s.number
  case neg =>
    have k3 : (t.number - 1 == s.number) = false := by simpa using t3
    have HF : Hid (followsL s t = false) := Lib.hid (by simp [followsL, t3])
    clear t3 t2
    go_wp2
    go_ret
    exact ⟨by rw [HF.out]; rfl, HEs.out⟩
  have k3 : (t.number - 1 == s.number) = true := by simpa using t3
  have HT3 := Lib.hid t3
  have HT2 := Lib.hid t2
  clear t3 t2
  cases t4 : (t.prev.toList == s.dig.toList) with
  | false =>
    have HF : Hid (followsL s t = false) := Lib.hid (by simp [followsL, t4])
    go_wp2
    go_ret
    exact ⟨by rw [HF.out]; rfl, HEs.out⟩
  | true =>
    have HF : Hid (followsL s t = decide (s.time ≤ t.time)) := Lib.hid (by simp [followsL, t4, HT1.out, HT2.out, HT3.out])
    go_wp2
    go_ret
    exact ⟨by rw [HF.out]; rfl, HEs.out⟩
end Go.Proofs.YtdifcnhhcinonaaGreat

/- ChainEnds: the walk. No statement of the seat. -/
import Derived.Test.YtaakacahblndcaaMg13
import Derived.Deep.Cut
import Derived.Deep.CutRange
import Derived.Deep.RegionHeld3
namespace Go.Proofs.Ytaakacahblndcaa
open Go.RowKit Go.Sort
attribute [local go_sem ↓] rowLoad_stv rowStore_stv rowBuild_stv

set_option maxHeartbeats 32000000 in
set_option maxRecDepth 100000 in
theorem chainEnds_walk (v : Value) (b : Int) (L : List Int) (w : World) (hv : Ints w v L) (hm0 : L.length ≤ 9223372036854775807) :
    Calls Try.prog 3 #[v, .int .i64 b] w fun e w' => e = .returned (.bool true) ∧ Below w.heap.size w w' := by
  obtain ⟨ao, cap, rfl, hx⟩ := hv
  have HFL : Hid (Ints w (.slice ao L.length cap) L) := Lib.hid ⟨ao, cap, rfl, hx⟩
  clear hx
  by_cases hm : (L.length : Int) ≤ 400
  · have hmN : L.length ≤ 400 := by omega
    go_enter Try.func3, Try.ntmps3
    go_upto_region 7 with (first
      | (go_at_call 4; refine (madeLight_any _ _ _ _).mono ?_; rintro e w' ⟨rfl, rfl⟩)
      | (go_at_call 6
         refine (ends_start (.slice ao L.length cap) L w HFL.out (by omega)).mono ?_
         rintro e w1 ⟨p, rfl, ⟨hd, hp1, hp2⟩, hex⟩
         have HD1 : Hid (DiceOK (p + 1) w1 p) := Lib.hid hd
         have HE1 : Hid (Ex w.heap.size none w w1) := Lib.hid hex
         clear hd hex)
      | (go_at_call 7
         refine (next_w (p + 1) p 4 w1 HD1.out (by omega) (by omega)).mono ?_
         rintro e w2 ⟨k, rfl, hk, hd, hex⟩
         have HD2 : Hid (DiceOK (p + 1) w2 p) := Lib.hid hd
         have HE2 : Hid (Ex w1.heap.size (some p) w1 w2) := Lib.hid hex
         clear hd hex)
      | fail)
    have hz1 := HE1.out.size
    have hz2 := HE2.out.size
    have HX2 : Hid (Ex w.heap.size none w w2) := Lib.hid (HE1.out.trans HE2.out hz1 (fun q hq h => by cases hq; omega))
    obtain ⟨N, hN⟩ : ∃ N : Nat, (1 : Int) + (k : Int) = (N : Int) := ⟨k + 1, by omega⟩
    have hN4 : N ≤ 4 := by omega
    have HM : Hid (∃ m, N = m + 1 ∧ m < 4) := Lib.hid ⟨k, by omega, by omega⟩
    rw [hN]
    obtain ⟨rb, hrb⟩ : ∃ rb, rb = w2.heap.size := ⟨_, rfl⟩
    have HRB := Lib.hid hrb
    have hprb : p + 1 ≤ rb := by omega
    have hwrb : w.heap.size ≤ rb := by omega
    clear hk hN hrb hz1 hz2
    go_loopw [6, 7, 8] (fun v6 v7 v8 wr => ∃ (j r t : Nat) (ro : Option Addr) (rc : Nat) (l : List St), j + r = N ∧ v8 = .int .i64 r ∧ v7 = .int .i64 t ∧ v6 = .slice ro j rc ∧ Hid (GoodE N j t l ∧ (∀ s ∈ l, Bare s) ∧ OwnT wr rb 0 ro rc l ∧ DiceOK (p + 1) wr p ∧ rb ≤ wr.heap.size ∧ Ex rb (some p) w2 wr) ∧ Ex w.heap.size none w wr) (fun _ _ v8 _ => (intOf v8).toNat)
    case atStart => exact ⟨0, N, 50, none, 0, [], by omega, rfl, rfl, rfl, Lib.hid ⟨⟨HM.out, .inl ⟨rfl, rfl, rfl⟩⟩, by simp, OwnT.nil _ _ _, HD2.out, by rw [HRB.out]; exact Nat.le_refl _, Ex.refl _ _ _⟩, HX2.out⟩
    case round =>
      obtain ⟨j, r, t, ro, rc, l, hjr, rfl, rfl, rfl, HI, hex⟩ := hrel
      have HEX := Lib.hid hex
      have hsz := hex.size
      have hrz : rb ≤ wr.heap.size := HI.out.2.2.2.2.1
      clear hex
      by_cases hlt : 0 < r
      · have hltI : (0 : Int) < (r : Int) := by omega
        have HLJ : Hid (l.length = j) := Lib.hid HI.out.1.num.2.2
        have HSL : Hid (∀ w', Ex wr.heap.size none wr w' → SlAt stRep (fun _ => True) w' ro l) := Lib.hid (fun w' h => ((((HI.out.2.2.1.s (Nat.zero_le _)).sl).at').mono (by decide) fun _ _ _ => trivial).keep (by decide) fun b _ hb => h.block b hb (by simp))
        have HTB : Hid (t ≤ 100) := Lib.hid (by
          rcases HI.out.1.2 with ⟨_, h, _⟩ | ⟨t0, i, hg, hi, h⟩
          · omega
          · have := hg.time; have := hg.le; omega)
        have htb : t ≤ 100 := HTB.out
        go_upto_region 10 with (first
          | (go_at_call 8
             refine (nextEnds (P := fun _ => True) ro rc N j t r l wr (HSL.out _ (Ex.refl _ _ _)) HI.out.1 HI.out.2.1 hjr hlt).mono ?_
             rintro e w3 ⟨⟨u, rfl, hu, hlu⟩, hex⟩
             have HU : Hid (u.1 = eNext j t r l ∧ ∀ Q W, Lies Q W u) := Lib.hid ⟨hu, hlu⟩
             have HE3 : Hid (Ex wr.heap.size none wr w3) := Lib.hid hex
             have hn3 := stV_new w3 #[.int .i64 0, .int .i64 0, .string ⟨#[]⟩, .int .i64 0, .int .i64 0, .int .i64 0, .int .i64 0, .int .i64 0, .slice none 0 0, .slice none 0 0, .string ⟨#[]⟩, .int .i64 0, .string ⟨#[]⟩] u rfl
             clear hu hlu hex)
          | fail)
        refine wp_world (fun W => W = w3.alloc (.cells (stV u).cells 33)) rfl (fun w4 hw4 => ?_)
        have HE4 : Hid (Ex wr.heap.size none wr w4) := Lib.hid (by rw [hw4]; exact HE3.out.allocW _)
        have HB4 : Hid (w4.heap[w3.heap.size]? = some (.cells (stV u).cells 33 (0, 0))) := Lib.hid (by rw [hw4]; exact heap_alloc_new w3 _)
        have r4 := stV_box HB4.out
        have hl4 := stV_litN1 w4 u
        have hz4 := HE4.out.size
        have HO4 : Hid (OwnT (w4.alloc (.cells (flatL stE [u]).toArray 33)) rb 0 ro rc l) := Lib.hid (HI.out.2.2.1.keep (HE4.out.allocW _) (Nat.le_refl _))
        clear hn3 hw4
        go_upto_region 8 with (first
          | (at_builtin
             refine wpList_appT rfl (.tmp 43) (.tmp 45) _ (by rfl) Try.underlying27 Try.infoSt rb 0 ro rc j l HLJ.out (by rfl) (some ⟨w4.heap.size, 0, none⟩) 1 1 (by rfl) [u] rfl HO4.out (src_lit (heap_alloc_new w4 _)) (fun x hx => by rw [List.mem_singleton.1 hx]; exact HU.out.2 _ _) (by omega) (by simp; omega) (j + 1) rfl ?_
             intro ro2 rc2 w5 ho5 hex5 hk5 hr5
             have HO5 : Hid (OwnT w5 rb 0 ro2 rc2 (l ++ [eNext j t r l])) := Lib.hid (by rw [List.map_cons, List.map_nil, HU.out.1] at ho5; exact ho5)
             have HE5 : Hid (Ex rb none wr w5) := Lib.hid (((HE4.out.allocW _).mono hrz).trans hex5 (Nat.le_refl _) (by simp))
             have HD5 : Hid (DiceOK (p + 1) w5 p) := Lib.hid (HI.out.2.2.2.1.keep HE5.out hprb)
             clear ho5 hex5 hk5 hr5 r4 hl4)
          | (go_at_call 7
             refine (next_w (p + 1) p 9 w5 HD5.out (by omega) (by omega)).mono ?_
             rintro e w6 ⟨i, rfl, hi, hd, hex⟩
             have HD6 : Hid (DiceOK (p + 1) w6 p) := Lib.hid hd
             have HE6 : Hid (Ex w5.heap.size (some p) w5 w6) := Lib.hid hex
             clear hd hex)
          | fail)
        have hz5 := HE5.out.size
        have hz6 := HE6.out.size
        have hi9 : i < 9 := by omega
        have HN : Hid (GoodE N (j + 1) (t + i) (l ++ [eNext j t r l])) := Lib.hid ⟨HM.out, .inr ⟨t, i, HI.out.1.step hjr hlt, hi9, rfl⟩⟩
        have HO6 : Hid (OwnT w6 rb 0 ro2 rc2 (l ++ [eNext j t r l])) := Lib.hid (by
          obtain ⟨xs, e, h1, h2⟩ := HO5.out
          refine ⟨xs, e, OwnE.keep h1 HE6.out (Nat.le_refl _) (fun q hq => by cases hq; omega), fun x hx => ?_⟩
          have hb : Bare x.1 := by
            have hx1 : x.1 ∈ l ++ [eNext j t r l] := by rw [← e]; exact List.mem_map_of_mem hx
            rcases List.mem_append.1 hx1 with h | h
            · exact HI.out.2.1 _ h
            · rw [List.mem_singleton.1 h]; exact ⟨rfl, rfl⟩
          have hl := lies_len (h2 x hx)
          obtain ⟨s, ⟨la, na, ca⟩, ⟨pa, np, cp⟩⟩ := x
          obtain ⟨hb1, hb2⟩ : s.list = [] ∧ s.pins = [] := hb
          simp only [hb1, hb2, List.length_nil] at hl
          obtain ⟨rfl, rfl⟩ := hl
          exact Bare.lies (s := s) ⟨hb1, hb2⟩ _ _ _ _ _ _)
        have HE26 : Hid (Ex rb (some p) w2 w6) := Lib.hid ((HI.out.2.2.2.2.2.trans HE5.out (Nat.le_refl _) (by simp)).trans (HE6.out.mono (by omega)) (Nat.le_refl _) (fun q hq _ => hq))
        have HEW : Hid (Ex w.heap.size none w w6) := Lib.hid ((HEX.out.trans (HE5.out.mono hwrb) (Nat.le_refl _) (by simp)).trans HE6.out (by omega) (fun q hq _ => by cases hq; omega))
        obtain ⟨q, hq⟩ : ∃ q, r = q + 1 := ⟨r - 1, by omega⟩
        subst hq
        go_wp2
        go_roundw
        case rel => exact ⟨j + 1, q, t + i, ro2, rc2, l ++ [eNext j t (q + 1) l], by omega, by go_num, by go_num, by go_num, Lib.hid ⟨HN.out, fun s hs => by
          rcases List.mem_append.1 hs with h | h
          · exact HI.out.2.1 _ h
          · rw [List.mem_singleton.1 h]; exact ⟨rfl, rfl⟩, HO6.out, HD6.out, by omega, HE26.out⟩, HEW.out⟩
        case measure => simp [intOf] <;> omega
      · have hr0 : r = 0 := by omega
        subst hr0
        have hjN : j = N := by omega
        subst hjN
        have HG : Hid (∃ t0, EndG j j t0 l) := Lib.hid (by
          rcases HI.out.1.2 with ⟨h, _, _⟩ | ⟨t0, i, hg, _⟩
          · obtain ⟨m, hm, _⟩ := HM.out; omega
          · exact ⟨t0, hg⟩)
        obtain ⟨t0, hg⟩ := HG.out
        have HE0 := Lib.hid hg
        obtain ⟨hT1, hT2⟩ := hg.time
        have hj1 := hg.pos
        obtain ⟨q, hq, hqt, hqk, hqs⟩ := hg.lastIs
        have HQL : Hid (l.getLast? = some q) := Lib.hid hq
        have HQT : Hid (q.time = (t0 : Int)) := Lib.hid hqt
        have HQS : Hid (q.dig.size = 32) := Lib.hid hqs
        have HLJ : Hid (l.length = j) := Lib.hid hg.len
        clear hg hq hqt hqk hqs
        have HSL : Hid (∀ w', Ex wr.heap.size none wr w' → SlAt stRep (fun _ => True) w' ro l) := Lib.hid (fun w' h => ((((HI.out.2.2.1.s (Nat.zero_le _)).sl).at').mono (by decide) fun _ _ _ => trivial).keep (by decide) fun b _ hb => h.block b hb (by simp))
        have HBR : Hid (∀ s ∈ l, Bare s) := Lib.hid HI.out.2.1
        obtain ⟨k, hk⟩ : ∃ k, j = k + 1 := ⟨j - 1, by omega⟩
        have HJK := Lib.hid hk
        obtain ⟨b0, off, z, hao, _, hbl, HZs, hlz, HLD⟩ := stv_get (HSL.out wr (Ex.refl _ _ _)) k (by rw [HLJ.out]; omega)
        have HZQ : Hid (z.1 = q) := Lib.hid (by
          have h1 := HQL.out
          rw [List.getLast?_eq_getElem?, HLJ.out, hk, Nat.add_sub_cancel, HZs.out] at h1
          exact Option.some.inj h1)
        subst hao
        have i1 : (j : Int) - 1 = (k : Int) := by omega
        have i2 : IntKind.i64.wrap ((j : Int) - 1) = (k : Int) := by simp [IntKind.wrap, IntKind.bits, IntKind.signed]; omega
        have i3 : (k : Int) < (j : Int) := by omega
        have hld := HLD.out wr rfl
        have hn3 := stV_new wr #[.int .i64 0, .int .i64 0, .string ⟨#[]⟩, .int .i64 0, .int .i64 0, .int .i64 0, .int .i64 0, .int .i64 0, .slice none 0 0, .slice none 0 0, .string ⟨#[]⟩, .int .i64 0, .string ⟨#[]⟩] z rfl
        clear hlz hk
        go_upto_region 14 with (fail)
        refine wp_world (fun W => W = wr.alloc (.cells (stV z).cells 33)) rfl (fun w4 hw4 => ?_)
        have HE4 : Hid (Ex wr.heap.size none wr w4) := Lib.hid (by rw [hw4]; exact Ex.new wr _)
        have HB4 : Hid (w4.heap[wr.heap.size]? = some (.cells (stV z).cells 33 (0, 0))) := Lib.hid (by rw [hw4]; exact heap_alloc_new wr _)
        have hz4 : wr.heap.size < w4.heap.size := (Array.getElem?_eq_some_iff.1 HB4.out).1
        obtain ⟨g4, hg4⟩ : ∃ g4, g4 = wr.heap.size := ⟨_, rfl⟩
        rw [← hg4] at hz4 ⊢
        have HG4 : Hid (w4.heap[g4]? = some (.cells (stV z).cells 33 (0, 0))) := Lib.hid (by rw [hg4]; exact HB4.out)
        have HQ4 : Hid (∀ w', Ex w4.heap.size none w4 w' → w'.cell? ⟨g4, 3, none⟩ = some (.int .i64 (t0 : Int)) ∧ w'.cell? ⟨g4, 12, none⟩ = some (.string q.dig)) := Lib.hid (fun w' h => by
          have hb := (h.block g4 hz4 (by simp)).trans HG4.out
          refine ⟨?_, ?_⟩
          · rw [cell_of_row _ _ _ _ _ _ hb]
            show some (Value.int .i64 z.1.time) = _
            rw [HZQ.out, HQT.out]
          · rw [cell_of_row _ _ _ _ _ _ hb]
            show some (Value.string z.1.dig) = _
            rw [HZQ.out])
        have HS4 : Hid (∀ w', Ex w4.heap.size none w4 w' → SlAt stRep (fun _ => True) w' (some ⟨b0, off, none⟩) l) := Lib.hid (fun w' h => HSL.out w' (HE4.out.thenW h))
        clear hld hn3 hw4 hg4
        obtain ⟨zm, hzm⟩ : ∃ zm, zm = modI b 40 := ⟨_, rfl⟩
        have hzb : 0 ≤ zm ∧ zm < 40 := by rw [hzm]; exact modI_bd (by omega)
        have HZM := Lib.hid hzm
        obtain ⟨hzb1, hzb2⟩ := hzb
        have k1 : IntKind.i64.wrap ((t0 : Int) - 1) = (t0 : Int) - 1 := by simp [IntKind.wrap, IntKind.bits, IntKind.signed]; omega
        have k2 : IntKind.i64.wrap ((t0 : Int) - 1 - zm) = (t0 : Int) - 1 - zm := by simp [IntKind.wrap, IntKind.bits, IntKind.signed]; omega
        clear hzm
        obtain ⟨c3, c12⟩ := HQ4.out w4 (Ex.refl _ _ _)
        go_cut [12, 13] from 57 to 69 (fun _ c W => c = .int .i64 9 ∧ Ex w4.heap.size none w4 W)
        case first =>
          go_region_held3 (fun w' => w'.cell? ⟨g4, 3, none⟩ = some (.int .i64 (t0 : Int)) ∧ w'.cell? ⟨g4, 12, none⟩ = some (.string q.dig)) (exact HQ4.out _ (by repeat (first | with_reducible exact HE5.out | with_reducible exact Ex.refl _ _ _ | with_reducible refine Ex.allocW ?_ _ | with_reducible refine Ex.drew ?_ | with_reducible refine Ex.setRow ?_ _ _ (.inr (Nat.le_refl _)))))
            (first
              | (go_at_call 9; refine (mod_any _ _ _ (by omega)).mono ?_; rw [← HZM.out]; rintro e w' ⟨rfl, rfl⟩)
              | (go_at_call 8
                 refine (nextFall (P := fun _ => True) (some ⟨b0, off, none⟩) rc j t0 ((t0 : Int) - 1 - zm) l _ (HS4.out _ (by repeat (first | with_reducible exact Ex.refl _ _ _ | with_reducible refine Ex.allocW ?_ _ | with_reducible refine Ex.drew ?_))) HE0.out hN4 HBR.out (by omega)).mono ?_
                 rintro e w5 ⟨⟨u, rfl⟩, hex⟩
                 have HE5 : Hid (Ex w4.heap.size none w4 w5) := Lib.hid (Ex.thenW (by repeat (first | with_reducible exact Ex.refl _ _ _ | with_reducible refine Ex.allocW ?_ _ | with_reducible refine Ex.drew ?_)) hex)
                 have hst := stV_new w5 #[.int .i64 0, .int .i64 0, .string ⟨#[]⟩, .int .i64 0, .int .i64 0, .int .i64 0, .int .i64 0, .int .i64 0, .slice none 0 0, .slice none 0 0, .string ⟨#[]⟩, .int .i64 0, .string ⟨#[]⟩] u rfl
                 try (
                   have hb5 : w5.heap[w4.heap.size]? = some (.cells #[.int .i64 0, .int .i64 0, .string ⟨#[]⟩, .int .i64 0, .int .i64 0, .int .i64 0, .int .i64 0, .int .i64 0, .slice none 0 0, .slice none 0 0, .string ⟨#[]⟩, .int .i64 0, .string ⟨#[]⟩] 33 (0, 0)) := (hex.block w4.heap.size (by simp) (by simp)).trans (heap_alloc_new _ _)
                   have hst5 := stv_store hb5 rfl u
                   clear hb5)
                 clear hex)
              | fail)
          all_goals go_wp2_with (fail)
          all_goals go_meet
          all_goals first
            | exact ⟨rfl, HE5.out.allocW _⟩
            | exact ⟨rfl, HE5.out.setRow _ _ (.inr (Nat.le_refl _))⟩
            | exact ⟨rfl, HE5.out⟩
        case rest =>
          rename World => w5
          obtain ⟨rfl, hex5⟩ := hcut
          have HE5 := Lib.hid hex5
          clear hex5 c3 c12 k1 k2 hzb1 hzb2
          obtain ⟨c3, c12⟩ := HQ4.out w5 HE5.out
          go_upto_region 16 with (first
            | (go_at_call 8
               refine (nextGone (P := fun _ => True) (some ⟨b0, off, none⟩) rc j t0 l w5 (HS4.out _ HE5.out) HE0.out hN4 HBR.out).mono ?_
               rintro e w6 ⟨⟨u, rfl, hu, hlu⟩, hex⟩
               have HU : Hid (u.1 = goneS j t0 l ∧ ∀ Q W, Lies Q W u) := Lib.hid ⟨hu, hlu⟩
               have HE6 : Hid (Ex w4.heap.size none w4 w6) := Lib.hid (HE5.out.thenW hex)
               have hn6 := stV_new w6 #[.int .i64 0, .int .i64 0, .string ⟨#[]⟩, .int .i64 0, .int .i64 0, .int .i64 0, .int .i64 0, .int .i64 0, .slice none 0 0, .slice none 0 0, .string ⟨#[]⟩, .int .i64 0, .string ⟨#[]⟩] u rfl
               clear hu hlu hex c3 c12)
            | fail)
          refine wp_world (fun W => W = w6.alloc (.cells (stV u).cells 33)) rfl (fun w7 hw7 => ?_)
          have HE7 : Hid (Ex w4.heap.size none w4 w7) := Lib.hid (by rw [hw7]; exact HE6.out.allocW _)
          have HB7 : Hid (w7.heap[w6.heap.size]? = some (.cells (stV u).cells 33 (0, 0))) := Lib.hid (by rw [hw7]; exact heap_alloc_new w6 _)
          have hz7 : w6.heap.size < w7.heap.size := (Array.getElem?_eq_some_iff.1 HB7.out).1
          obtain ⟨g7, hg7⟩ : ∃ g7, g7 = w6.heap.size := ⟨_, rfl⟩
          rw [← hg7] at hz7 ⊢
          have HG7 : Hid (w7.heap[g7]? = some (.cells (stV u).cells 33 (0, 0))) := Lib.hid (by rw [hg7]; exact HB7.out)
          have HQ7 : Hid (∀ w', Ex w7.heap.size none w7 w' → (w'.cell? ⟨g4, 3, none⟩ = some (.int .i64 (t0 : Int)) ∧ w'.cell? ⟨g4, 12, none⟩ = some (.string q.dig)) ∧ (rowLoad 33 ⟨g7, 0, none⟩).run Try.prog w' = .ok (stV u) w' ∧ w'.cell? ⟨g7, 12, none⟩ = some (.string (goneS j t0 l).dig)) := Lib.hid (fun w' h => by
            have hb := (h.block g7 hz7 (by simp)).trans HG7.out
            refine ⟨HQ4.out _ (HE7.out.thenW h), stV_box hb, ?_⟩
            rw [cell_of_row _ _ _ _ _ _ hb]
            show some (Value.string u.1.dig) = _
            rw [HU.out.1])
          have HS7 : Hid (∀ w', Ex w7.heap.size none w7 w' → SlAt stRep (fun _ => True) w' (some ⟨b0, off, none⟩) l) := Lib.hid (fun w' h => HS4.out w' (HE7.out.thenW h))
          clear hn6 hw7 hg7
          obtain ⟨⟨c3, c12⟩, r7, g12⟩ := HQ7.out w7 (Ex.refl _ _ _)
          have HXS : Hid (∃ xs : List (St × Sv × Sv), xs.map (·.1) = l ∧ (∀ x ∈ xs, ∀ Q W, Lies Q W x) ∧ Src wr (some ⟨b0, off, none⟩) xs) := Lib.hid (by
            obtain ⟨xs, h1, h2, h3⟩ := ends_parts (HSL.out wr (Ex.refl _ _ _))
            refine ⟨xs, h1, fun x hx Q W => ?_, h2⟩
            have hb : Bare x.1 := HBR.out _ (by rw [← h1]; exact List.mem_map_of_mem hx)
            have hl := lies_len (h3 x hx)
            obtain ⟨s, ⟨la, na, ca⟩, ⟨pa, np, cp⟩⟩ := x
            obtain ⟨hb1, hb2⟩ : s.list = [] ∧ s.pins = [] := hb
            simp only [hb1, hb2, List.length_nil] at hl
            obtain ⟨rfl, rfl⟩ := hl
            exact Bare.lies (s := s) ⟨hb1, hb2⟩ _ _ _ _ _ _)
          obtain ⟨xs, hx1, hx2, hx3⟩ := HXS.out
          have HXX : Hid (xs.map (·.1) = l ∧ ∀ x ∈ xs, ∀ Q W, Lies Q W x) := Lib.hid ⟨hx1, hx2⟩
          have HXN : Hid (xs.length = j) := Lib.hid (by rw [← HLJ.out, ← hx1, List.length_map])
          have HSRC : Hid (Src wr (some ⟨b0, off, none⟩) xs) := Lib.hid hx3
          clear hx1 hx2 hx3
          have HXQw7 : Hid (∀ w', Ex w7.heap.size none w7 w' → Src w' (some ⟨b0, off, none⟩) xs) := Lib.hid (fun w' h => (HSRC.out).keep fun b hb hlt => ((HE7.out.thenW h).block b (by have := HE4.out.size; omega) (by simp)).trans (HE4.out.block b hlt (by simp)))
          have hbd := fun W => stV_litN1 W u
          have HLIT : Hid (∀ x ∈ [u], ∀ Q W, Lies Q W x) := Lib.hid (fun x hx Q W => by rw [List.mem_singleton.1 hx]; exact HU.out.2 Q W)
          go_cut [16, 17] from 77 to 87 (fun _ c W => c = .int .i64 5 ∧ Ex w7.heap.size none w7 W)
          case first =>
            have HLA : Hid (u.1 = goneS j t0 l ∧ True) := Lib.hid ⟨HU.out.1, trivial⟩
            have HAF := HLA
            try clear hm0
            try clear hm
            try clear hmN
            try clear hp1
            try clear hp2
            try clear hprb
            try clear hwrb
            try clear hsz
            try clear hrz
            try clear hlt
            try clear hltI
            try clear hjr
            try clear i1
            try clear i2
            try clear i3
            try clear hj1
            try clear hT1
            try clear hT2
            try clear hz4
            try clear hz7
            try clear hz10
            try clear hz12
            try clear k1
            try clear k3
            try clear hbl
            first | (go_region_held3 (fun w' => (w'.cell? ⟨g4, 3, none⟩ = some (.int .i64 (t0 : Int)) ∧ w'.cell? ⟨g4, 12, none⟩ = some (.string q.dig)) ∧ (rowLoad 33 ⟨g7, 0, none⟩).run Try.prog w' = .ok (stV u) w' ∧ w'.cell? ⟨g7, 12, none⟩ = some (.string (goneS j t0 l).dig)) (exact HQ7.out _ (by repeat (first | with_reducible exact HE11.out | with_reducible exact HE10.out | with_reducible exact HE9.out | with_reducible exact Ex.refl _ _ _ | with_reducible refine Ex.allocW ?_ _ | with_reducible refine Ex.drew ?_ | with_reducible refine Ex.setRow ?_ _ _ (.inr (by first | exact Nat.le_refl _ | exact Nat.le_add_right _ _ | exact HE9.out.size | exact Nat.le_trans HE9.out.size (Nat.le_add_right _ _) | exact HE10.out.size)))))
              (first
              | (go_at_call 8
                 refine (nextBehind (P := fun _ => True) a10 k10 j t0 l _ (HS10.out _ (by repeat (first | with_reducible exact Ex.refl _ _ _ | with_reducible refine Ex.allocW ?_ _ | with_reducible refine Ex.drew ?_ | with_reducible refine Ex.setRow ?_ _ _ (.inr (by first | exact Nat.le_refl _ | exact Nat.le_add_right _ _ | exact HE9.out.size | exact Nat.le_trans HE9.out.size (Nat.le_add_right _ _) | exact HE10.out.size))))) HE0.out hN4 HBR.out).mono ?_
                 rintro e w11 ⟨⟨v11, rfl⟩, hex⟩
                 have HE11 : Hid (Ex w7.heap.size none w7 w11) := Lib.hid (Ex.thenB (by repeat (first | with_reducible exact HE10.out | with_reducible exact Ex.refl _ _ _ | with_reducible refine Ex.allocW ?_ _ | with_reducible refine Ex.drew ?_ | with_reducible refine Ex.setRow ?_ _ _ (.inr (by first | exact Nat.le_refl _ | exact Nat.le_add_right _ _ | exact HE9.out.size | exact Nat.le_trans HE9.out.size (Nat.le_add_right _ _) | exact HE10.out.size)))) (hex.mono (show Ex w7.heap.size none w7 _ from (by repeat (first | with_reducible exact HE10.out | with_reducible exact Ex.refl _ _ _ | with_reducible refine Ex.allocW ?_ _ | with_reducible refine Ex.drew ?_ | with_reducible refine Ex.setRow ?_ _ _ (.inr (by first | exact Nat.le_refl _ | exact Nat.le_add_right _ _ | exact HE9.out.size | exact Nat.le_trans HE9.out.size (Nat.le_add_right _ _) | exact HE10.out.size))))).size))
                 have hst := stV_new w11 #[.int .i64 0, .int .i64 0, .string ⟨#[]⟩, .int .i64 0, .int .i64 0, .int .i64 0, .int .i64 0, .int .i64 0, .slice none 0 0, .slice none 0 0, .string ⟨#[]⟩, .int .i64 0, .string ⟨#[]⟩] v11 rfl
                 try (have hsta := stv_store (hex.at' (Nat.le_refl _) (by (repeat (first | with_reducible exact HBa10.out | with_reducible exact heap_alloc_new _ _ | with_reducible exact heap2 _ _ _ _ | with_reducible exact heap2d _ _ _ _ | with_reducible exact heap1d _ _ _ | with_reducible refine heapD ?_ | with_reducible refine heapK ?_)); first | done | fail)) rfl v11)
                 try (have hstb := stv_store (hex.at' (Nat.le_refl _) (by (repeat (first | with_reducible exact HBb10.out | with_reducible exact heap_alloc_new _ _ | with_reducible exact heap2 _ _ _ _ | with_reducible exact heap2d _ _ _ _ | with_reducible exact heap1d _ _ _ | with_reducible refine heapD ?_ | with_reducible refine heapK ?_)); first | done | fail)) rfl v11)
                 try (have hstc := stv_store (hex.at' (Nat.le_refl _) (by (repeat (first | with_reducible exact HBc10.out | with_reducible exact heap_alloc_new _ _ | with_reducible exact heap2 _ _ _ _ | with_reducible exact heap2d _ _ _ _ | with_reducible exact heap1d _ _ _ | with_reducible refine heapD ?_ | with_reducible refine heapK ?_)); first | done | fail)) rfl v11)
                 try (have hstd := stv_store (hex.at' (Nat.le_refl _) (by (repeat (first | with_reducible exact HBd10.out | with_reducible exact heap_alloc_new _ _ | with_reducible exact heap2 _ _ _ _ | with_reducible exact heap2d _ _ _ _ | with_reducible exact heap1d _ _ _ | with_reducible refine heapD ?_ | with_reducible refine heapK ?_)); first | done | fail)) rfl v11)
                 try (have hste := stv_store (g := w10.heap.size) (old := #[.int .i64 0, .int .i64 0, .string ⟨#[]⟩, .int .i64 0, .int .i64 0, .int .i64 0, .int .i64 0, .int .i64 0, .slice none 0 0, .slice none 0 0, .string ⟨#[]⟩, .int .i64 0, .string ⟨#[]⟩]) (hex.at' (Nat.le_refl _) (by (repeat (first | with_reducible exact heap_alloc_new _ _ | with_reducible exact heap2 _ _ _ _ | with_reducible exact heap2d _ _ _ _ | with_reducible exact heap1d _ _ _ | with_reducible refine heapD ?_ | with_reducible refine heapK ?_)); first | done | fail)) rfl v11)
                 clear hex)
              | (refine step_appT rfl (.tmp 79) (.tmp 81) _ (by rfl) Try.underlying27 Try.infoSt w7.heap.size 0 a9 k9 j l HLJ.out (by rfl) (some ⟨_, 0, none⟩) 1 1 (by rfl) [u] rfl (HO9.out.keep (show Ex w9.heap.size none w9 _ from (by repeat (first | with_reducible exact Ex.refl _ _ _ | with_reducible refine Ex.allocW ?_ _ | with_reducible refine Ex.drew ?_ | with_reducible refine Ex.setRow ?_ _ _ (.inr (by first | exact Nat.le_refl _ | exact Nat.le_add_right _ _ | exact HE9.out.size | exact Nat.le_trans HE9.out.size (Nat.le_add_right _ _) | exact HE10.out.size))))) (Nat.le_refl _)) (src_lit (by (repeat (first | with_reducible exact HLa9.out.1 | with_reducible exact HLb9.out.1 | with_reducible exact heap_alloc_new _ _ | with_reducible exact heap2 _ _ _ _ | with_reducible exact heap2d _ _ _ _ | with_reducible exact heap1d _ _ _ | with_reducible refine heapD ?_ | with_reducible refine heapK ?_)); first | done | fail)) (fun x hx => HLIT.out x hx _ _) (by omega) ((show Ex w7.heap.size none w7 _ from (by repeat (first | with_reducible exact HE9.out | with_reducible exact Ex.refl _ _ _ | with_reducible refine Ex.allocW ?_ _ | with_reducible refine Ex.drew ?_ | with_reducible refine Ex.setRow ?_ _ _ (.inr (by first | exact Nat.le_refl _ | exact Nat.le_add_right _ _ | exact HE9.out.size | exact Nat.le_trans HE9.out.size (Nat.le_add_right _ _) | exact HE10.out.size))))).size) (j + 1) rfl ?_
                 intro a10 k10 w10 ho hex hk hr
                 have HS10 : Hid (∀ w', Ex w10.heap.size none w10 w' → SlAt stRep (fun _ => True) w' a10 (l ++ [goneS j t0 l])) := Lib.hid (fun w' h => by
                   have h1 := (((ho.s (Nat.zero_le _)).sl).at').mono (P' := fun _ => True) (by decide) fun _ _ _ => trivial
                   simp only [List.map_cons, List.map_nil, HU.out.1] at h1
                   exact h1.keep (by decide) fun b _ hb => h.block b hb (by simp))
                 have HE10 : Hid (Ex w7.heap.size none w7 w10) := Lib.hid (Ex.thenB (by repeat (first | with_reducible exact HE9.out | with_reducible exact Ex.refl _ _ _ | with_reducible refine Ex.allocW ?_ _ | with_reducible refine Ex.drew ?_ | with_reducible refine Ex.setRow ?_ _ _ (.inr (by first | exact Nat.le_refl _ | exact Nat.le_add_right _ _ | exact HE9.out.size | exact Nat.le_trans HE9.out.size (Nat.le_add_right _ _) | exact HE10.out.size)))) hex)
                 try (have HBa10 : Hid (w10.heap[w7.heap.size]? = some (.cells #[.int .i64 0, .int .i64 0, .string ⟨#[]⟩, .int .i64 0, .int .i64 0, .int .i64 0, .int .i64 0, .int .i64 0, .slice none 0 0, .slice none 0 0, .string ⟨#[]⟩, .int .i64 0, .string ⟨#[]⟩] 33 (0, 0))) := Lib.hid (kAt hk HBa9.out.2 (by (repeat (first | with_reducible exact HBa9.out.1 | with_reducible exact heap_alloc_new _ _ | with_reducible exact heap2 _ _ _ _ | with_reducible exact heap2d _ _ _ _ | with_reducible exact heap1d _ _ _ | with_reducible refine heapD ?_ | with_reducible refine heapK ?_)); first | done | fail)))
                 try (have HBb10 : Hid (w10.heap[w7.heap.size + 1]? = some (.cells #[.int .i64 0, .int .i64 0, .string ⟨#[]⟩, .int .i64 0, .int .i64 0, .int .i64 0, .int .i64 0, .int .i64 0, .slice none 0 0, .slice none 0 0, .string ⟨#[]⟩, .int .i64 0, .string ⟨#[]⟩] 33 (0, 0))) := Lib.hid (kAt hk HBb9.out.2 (by (repeat (first | with_reducible exact HBb9.out.1 | with_reducible exact heap_alloc_new _ _ | with_reducible exact heap2 _ _ _ _ | with_reducible exact heap2d _ _ _ _ | with_reducible exact heap1d _ _ _ | with_reducible refine heapD ?_ | with_reducible refine heapK ?_)); first | done | fail)))
                 try (have HBc10 : Hid (w10.heap[w9.heap.size]? = some (.cells #[.int .i64 0, .int .i64 0, .string ⟨#[]⟩, .int .i64 0, .int .i64 0, .int .i64 0, .int .i64 0, .int .i64 0, .slice none 0 0, .slice none 0 0, .string ⟨#[]⟩, .int .i64 0, .string ⟨#[]⟩] 33 (0, 0))) := Lib.hid (kAt hk (rowFar HO9.out (Nat.le_refl _)) (by (repeat (first | with_reducible exact heap_alloc_new _ _ | with_reducible exact heap2 _ _ _ _ | with_reducible exact heap2d _ _ _ _ | with_reducible exact heap1d _ _ _ | with_reducible refine heapD ?_ | with_reducible refine heapK ?_)); first | done | fail)))
                 try (have HBd10 : Hid (w10.heap[w9.heap.size + 1]? = some (.cells #[.int .i64 0, .int .i64 0, .string ⟨#[]⟩, .int .i64 0, .int .i64 0, .int .i64 0, .int .i64 0, .int .i64 0, .slice none 0 0, .slice none 0 0, .string ⟨#[]⟩, .int .i64 0, .string ⟨#[]⟩] 33 (0, 0))) := Lib.hid (kAt hk (rowFar HO9.out (Nat.le_succ _)) (by (repeat (first | with_reducible exact heap_alloc_new _ _ | with_reducible exact heap2 _ _ _ _ | with_reducible exact heap2d _ _ _ _ | with_reducible exact heap1d _ _ _ | with_reducible refine heapD ?_ | with_reducible refine heapK ?_)); first | done | fail)))
                 clear ho hex hk hr)
              | (refine step_appT rfl (.const (.slice none 0 0)) (.tmp 78) _ (by rfl) Try.underlying27 Try.infoSt w7.heap.size 0 none 0 0 [] rfl (by rfl) (some ⟨b0, off, none⟩) j rc (by rfl) xs HXN.out (OwnT.nil _ _ _) (HXQw7.out _ (by repeat (first | with_reducible exact Ex.refl _ _ _ | with_reducible refine Ex.allocW ?_ _ | with_reducible refine Ex.drew ?_ | with_reducible refine Ex.setRow ?_ _ _ (.inr (by first | exact Nat.le_refl _ | exact Nat.le_add_right _ _ | exact HE9.out.size | exact Nat.le_trans HE9.out.size (Nat.le_add_right _ _) | exact HE10.out.size))))) (fun x hx => HXX.out.2 x hx _ _) (by omega) ((show Ex w7.heap.size none w7 _ from (by repeat (first | with_reducible exact Ex.refl _ _ _ | with_reducible refine Ex.allocW ?_ _ | with_reducible refine Ex.drew ?_ | with_reducible refine Ex.setRow ?_ _ _ (.inr (by first | exact Nat.le_refl _ | exact Nat.le_add_right _ _ | exact HE9.out.size | exact Nat.le_trans HE9.out.size (Nat.le_add_right _ _) | exact HE10.out.size))))).size) j (by omega) ?_
                 intro a9 k9 w9 ho hex hk hr
                 have HO9 : Hid (OwnT w9 w7.heap.size 0 a9 k9 l) := Lib.hid (by rw [HXX.out.1, List.nil_append] at ho; exact ho)
                 have HE9 : Hid (Ex w7.heap.size none w7 w9) := Lib.hid (Ex.thenB (by repeat (first | with_reducible exact Ex.refl _ _ _ | with_reducible refine Ex.allocW ?_ _ | with_reducible refine Ex.drew ?_ | with_reducible refine Ex.setRow ?_ _ _ (.inr (by first | exact Nat.le_refl _ | exact Nat.le_add_right _ _ | exact HE9.out.size | exact Nat.le_trans HE9.out.size (Nat.le_add_right _ _) | exact HE10.out.size)))) hex)
                 try (have HBa9 := Lib.hid (boxKept (b := w7.heap.size) (x := (.cells #[.int .i64 0, .int .i64 0, .string ⟨#[]⟩, .int .i64 0, .int .i64 0, .int .i64 0, .int .i64 0, .int .i64 0, .slice none 0 0, .slice none 0 0, .string ⟨#[]⟩, .int .i64 0, .string ⟨#[]⟩] 33 (0, 0))) hk hr (by (repeat (first | with_reducible exact heap_alloc_new _ _ | with_reducible exact heap2 _ _ _ _ | with_reducible exact heap2d _ _ _ _ | with_reducible exact heap1d _ _ _ | with_reducible refine heapD ?_ | with_reducible refine heapK ?_)); first | done | fail)))
                 try (have HBb9 := Lib.hid (boxKept (b := w7.heap.size + 1) (x := (.cells #[.int .i64 0, .int .i64 0, .string ⟨#[]⟩, .int .i64 0, .int .i64 0, .int .i64 0, .int .i64 0, .int .i64 0, .slice none 0 0, .slice none 0 0, .string ⟨#[]⟩, .int .i64 0, .string ⟨#[]⟩] 33 (0, 0))) hk hr (by (repeat (first | with_reducible exact heap_alloc_new _ _ | with_reducible exact heap2 _ _ _ _ | with_reducible exact heap2d _ _ _ _ | with_reducible exact heap1d _ _ _ | with_reducible refine heapD ?_ | with_reducible refine heapK ?_)); first | done | fail)))
                 try (have HLa9 := Lib.hid (boxKept (b := w7.heap.size) (x := .cells (flatL stE [u]).toArray 33 (0, 0)) hk hr (by (repeat (first | with_reducible exact heap_alloc_new _ _ | with_reducible exact heap2 _ _ _ _ | with_reducible exact heap2d _ _ _ _ | with_reducible exact heap1d _ _ _ | with_reducible refine heapD ?_ | with_reducible refine heapK ?_)); first | done | fail)))
                 try (have HLb9 := Lib.hid (boxKept (b := w7.heap.size + 1) (x := .cells (flatL stE [u]).toArray 33 (0, 0)) hk hr (by (repeat (first | with_reducible exact heap_alloc_new _ _ | with_reducible exact heap2 _ _ _ _ | with_reducible exact heap2d _ _ _ _ | with_reducible exact heap1d _ _ _ | with_reducible refine heapD ?_ | with_reducible refine heapK ?_)); first | done | fail)))
                 clear ho hex hk hr)
              | fail)) | fail
            all_goals go_wp2_with (fail)
            all_goals go_meet
            all_goals first
              | exact ⟨rfl, HE11.out.allocW _⟩
              | exact ⟨rfl, HE11.out.setRow _ _ (.inr (by first | omega | exact Nat.le_refl _ | exact Nat.le_add_right _ _ | exact HE9.out.size | exact Nat.le_trans HE9.out.size (Nat.le_add_right _ _) | exact HE10.out.size))⟩
          case rest =>
            rename World => w8
            obtain ⟨rfl, hex8⟩ := hcut
            have HE8 := Lib.hid hex8
            clear hex8 c3 c12 r7 g12
            obtain ⟨⟨c3, c12⟩, r7, g12⟩ := HQ7.out w8 HE8.out
            have k1 : IntKind.i64.wrap ((t0 : Int) - 1) = (t0 : Int) - 1 := by simp [IntKind.wrap, IntKind.bits, IntKind.signed]; omega
            have k3 : IntKind.i64.wrap ((j : Int) + 1) = (j : Int) + 1 := by simp [IntKind.wrap, IntKind.bits, IntKind.signed]; omega
            go_upto_region 18 with (first
              | (go_at_call 10
                 refine (sealLate j t0 q.dig HQS.out (by omega) w8).mono ?_
                 rintro e w9 ⟨⟨la, rfl, hla, hll⟩, hex⟩
                 have HLA : Hid (la.1 = eS j q.dig (t0 - 1) 10 0 ∧ ∀ Q W, Lies Q W la) := Lib.hid ⟨hla, hll⟩
                 have HE9 : Hid (Ex w7.heap.size none w7 w9) := Lib.hid (HE8.out.thenW hex)
                 have hn9 := stV_new w9 #[.int .i64 0, .int .i64 0, .string ⟨#[]⟩, .int .i64 0, .int .i64 0, .int .i64 0, .int .i64 0, .int .i64 0, .slice none 0 0, .slice none 0 0, .string ⟨#[]⟩, .int .i64 0, .string ⟨#[]⟩] la rfl
                 clear hla hll hex c3 c12 r7 g12)
              | fail)
            refine wp_world (fun W => W = w9.alloc (.cells (stV la).cells 33)) rfl (fun w10 hw10 => ?_)
            have HE10 : Hid (Ex w7.heap.size none w7 w10) := Lib.hid (by rw [hw10]; exact HE9.out.allocW _)
            have HB10 : Hid (w10.heap[w9.heap.size]? = some (.cells (stV la).cells 33 (0, 0))) := Lib.hid (by rw [hw10]; exact heap_alloc_new w9 _)
            have hz10 : w9.heap.size < w10.heap.size := (Array.getElem?_eq_some_iff.1 HB10.out).1
            obtain ⟨g10, hg10⟩ : ∃ g10, g10 = w9.heap.size := ⟨_, rfl⟩
            rw [← hg10] at hz10 ⊢
            have HG10 : Hid (w10.heap[g10]? = some (.cells (stV la).cells 33 (0, 0))) := Lib.hid (by rw [hg10]; exact HB10.out)
            clear hn9 hw10 hg10 k1
            obtain ⟨⟨c3, c12⟩, r7, g12⟩ := HQ7.out w10 HE10.out
            go_upto_region 19 with (first
              | (go_at_call 10
                 refine (sealAfter j (goneS j t0 l).dig (by unfold goneS; rw [eS_dig]; exact sha_size _) w10).mono ?_
                 rintro e w11 ⟨⟨af, rfl, haf, hlf⟩, hex⟩
                 have HAF : Hid (af.1 = eS (j + 1) (goneS j t0 l).dig 900 10 0 ∧ ∀ Q W, Lies Q W af) := Lib.hid ⟨haf, hlf⟩
                 have HE11 : Hid (Ex w10.heap.size none w10 w11) := Lib.hid hex
                 have hn11 := stV_new w11 #[.int .i64 0, .int .i64 0, .string ⟨#[]⟩, .int .i64 0, .int .i64 0, .int .i64 0, .int .i64 0, .int .i64 0, .slice none 0 0, .slice none 0 0, .string ⟨#[]⟩, .int .i64 0, .string ⟨#[]⟩] af rfl
                 clear haf hlf hex c3 c12 r7 g12)
              | fail)
            refine wp_world (fun W => W = w11.alloc (.cells (stV af).cells 33)) rfl (fun w12 hw12 => ?_)
            have HE12 : Hid (Ex w10.heap.size none w10 w12) := Lib.hid (by rw [hw12]; exact HE11.out.allocW _)
            have HB12 : Hid (w12.heap[w11.heap.size]? = some (.cells (stV af).cells 33 (0, 0))) := Lib.hid (by rw [hw12]; exact heap_alloc_new w11 _)
            have hz12 : w11.heap.size < w12.heap.size := (Array.getElem?_eq_some_iff.1 HB12.out).1
            obtain ⟨g13, hg13⟩ : ∃ g13, g13 = w11.heap.size := ⟨_, rfl⟩
            rw [← hg13] at hz12 ⊢
            have HG13 : Hid (w12.heap[g13]? = some (.cells (stV af).cells 33 (0, 0))) := Lib.hid (by rw [hg13]; exact HB12.out)
            clear hn11 hw12 hg13
            have HQ12 : Hid (∀ w', Ex w12.heap.size none w12 w' → (rowLoad 33 ⟨g7, 0, none⟩).run Try.prog w' = .ok (stV u) w' ∧ (rowLoad 33 ⟨g10, 0, none⟩).run Try.prog w' = .ok (stV la) w' ∧ (rowLoad 33 ⟨g13, 0, none⟩).run Try.prog w' = .ok (stV af) w') := Lib.hid (fun w' h => by
              refine ⟨(HQ7.out w' (HE10.out.thenW (HE12.out.thenW h))).2.1, ?_, ?_⟩
              · exact stV_box (((HE12.out.thenW h).block g10 hz10 (by simp)).trans HG10.out)
              · exact stV_box ((h.block g13 hz12 (by simp)).trans HG13.out))
            have HXQw12 : Hid (∀ w', Ex w12.heap.size none w12 w' → Src w' (some ⟨b0, off, none⟩) xs) := Lib.hid (fun w' h => HXQw7.out w' (HE10.out.thenW (HE12.out.thenW h)))
            clear hbd
            have hbd1 := fun W => stV_litN1 W la
            have hbd2 := fun W => stV_litN2 W u af
            have HLL1 : Hid (∀ x ∈ [la], ∀ Q W, Lies Q W x) := Lib.hid (fun x hx Q W => by rw [List.mem_singleton.1 hx]; exact HLA.out.2 Q W)
            have HLL2 : Hid (∀ x ∈ [u, af], ∀ Q W, Lies Q W x) := Lib.hid (fun x hx Q W => by
              simp only [List.mem_cons, List.not_mem_nil, or_false] at hx
              rcases hx with rfl | rfl
              · exact HU.out.2 Q W
              · exact HAF.out.2 Q W)
            have HC1 : Hid (∀ ls, LinksR 1 (l ++ [eS j q.dig (t0 - 1) 10 0]) ls → countN ls = j) := Lib.hid (fun ls h => by rw [HE0.out.late (by omega) HQL.out h]; exact HLJ.out)
            have HC2 : Hid (∀ ls, LinksR 1 (l ++ [goneS j t0 l, eS (j + 1) (goneS j t0 l).dig 900 10 0]) ls → countN ls = j + 1) := Lib.hid (fun ls h => by
              rw [goneS_eq HQL.out] at h
              have e : l ++ [eS j q.dig t0 3 0, eS (j + 1) (eS j q.dig t0 3 0).dig 900 10 0] = l ++ [eS j q.dig t0 3 0] ++ [eS (j + 1) (eS j q.dig t0 3 0).dig 900 10 0] := by simp
              rw [e] at h
              rw [HE0.out.after (by omega) HQL.out h, HLJ.out])
            have HBA : Hid (∀ (xs : List St), (∀ s ∈ xs, s.list = [] ∧ s.pins = []) → ∀ s ∈ l ++ xs, Bare s) := Lib.hid (fun xs h s hs => by
              rcases List.mem_append.1 hs with hs | hs
              · exact HBR.out s hs
              · exact h s hs)
            obtain ⟨r7, r10, r13⟩ := HQ12.out _ (Ex.refl _ _ w12)
            first | (go_region_held3 (fun w' => (rowLoad 33 ⟨g7, 0, none⟩).run Try.prog w' = .ok (stV u) w' ∧ (rowLoad 33 ⟨g10, 0, none⟩).run Try.prog w' = .ok (stV la) w' ∧ (rowLoad 33 ⟨g13, 0, none⟩).run Try.prog w' = .ok (stV af) w') (exact HQ12.out _ (by repeat (first | with_reducible exact HE18.out | with_reducible exact HE17.out | with_reducible exact HE16.out | with_reducible exact HE15.out | with_reducible exact HE14.out | with_reducible exact HE13.out | with_reducible exact HEA.out | with_reducible exact Ex.refl _ _ _ | with_reducible refine Ex.allocW ?_ _ | with_reducible refine Ex.drew ?_ | with_reducible refine Ex.setRow ?_ _ _ (.inr (by first | exact Nat.le_refl _ | exact Nat.le_add_right _ _ | exact HE9.out.size | exact Nat.le_trans HE9.out.size (Nat.le_add_right _ _) | exact HE10.out.size)))))
              (first
              | (go_at_call 5
                 refine (awake04_any _).mono ?_
                 rintro e wA ⟨rfl, hex⟩
                 have HEA : Hid (Ex w12.heap.size none w12 wA) := Lib.hid (Ex.thenB (by repeat (first | with_reducible exact Ex.refl _ _ _ | with_reducible refine Ex.allocW ?_ _ | with_reducible refine Ex.drew ?_ | with_reducible refine Ex.setRow ?_ _ _ (.inr (by first | exact Nat.le_refl _ | exact Nat.le_add_right _ _ | exact HE9.out.size | exact Nat.le_trans HE9.out.size (Nat.le_add_right _ _) | exact HE10.out.size)))) (hex.mono (show Ex w12.heap.size none w12 _ from (by repeat (first | with_reducible exact Ex.refl _ _ _ | with_reducible refine Ex.allocW ?_ _ | with_reducible refine Ex.drew ?_ | with_reducible refine Ex.setRow ?_ _ _ (.inr (by first | exact Nat.le_refl _ | exact Nat.le_add_right _ _ | exact HE9.out.size | exact Nat.le_trans HE9.out.size (Nat.le_add_right _ _) | exact HE10.out.size))))).size))
                 clear hex)
              | (go_at_call 11
                 refine (countedNum (P := fun _ => True) a17 (j + 2) k17 (j + 1) (l ++ [goneS j t0 l, eS (j + 1) (goneS j t0 l).dig 900 10 0]) _ (HS17.out _ (by repeat (first | with_reducible exact Ex.refl _ _ _ | with_reducible refine Ex.allocW ?_ _ | with_reducible refine Ex.drew ?_ | with_reducible refine Ex.setRow ?_ _ _ (.inr (by first | exact Nat.le_refl _ | exact Nat.le_add_right _ _ | exact HE9.out.size | exact Nat.le_trans HE9.out.size (Nat.le_add_right _ _) | exact HE10.out.size))))) (by rw [List.length_append, HLJ.out]; rfl) (by omega) (HBA.out _ (fun s hs => by simp only [List.mem_cons, List.not_mem_nil, or_false] at hs; rcases hs with rfl | rfl <;> exact ⟨rfl, rfl⟩)) HC2.out).mono ?_
                 rintro e w18 ⟨r18, c18, rfl, hex⟩
                 have HE18 : Hid (Ex w12.heap.size none w12 w18) := Lib.hid (Ex.thenB (by repeat (first | with_reducible exact HE17.out | with_reducible exact Ex.refl _ _ _ | with_reducible refine Ex.allocW ?_ _ | with_reducible refine Ex.drew ?_ | with_reducible refine Ex.setRow ?_ _ _ (.inr (by first | exact Nat.le_refl _ | exact Nat.le_add_right _ _ | exact HE9.out.size | exact Nat.le_trans HE9.out.size (Nat.le_add_right _ _) | exact HE10.out.size)))) (hex.mono (show Ex w12.heap.size none w12 _ from (by repeat (first | with_reducible exact HE17.out | with_reducible exact Ex.refl _ _ _ | with_reducible refine Ex.allocW ?_ _ | with_reducible refine Ex.drew ?_ | with_reducible refine Ex.setRow ?_ _ _ (.inr (by first | exact Nat.le_refl _ | exact Nat.le_add_right _ _ | exact HE9.out.size | exact Nat.le_trans HE9.out.size (Nat.le_add_right _ _) | exact HE10.out.size))))).size))
                 clear hex)
              | (go_at_call 11
                 refine (countedNum (P := fun _ => True) a14 (j + 1) k14 j (l ++ [eS j q.dig (t0 - 1) 10 0]) _ (HS14.out _ (by repeat (first | with_reducible exact Ex.refl _ _ _ | with_reducible refine Ex.allocW ?_ _ | with_reducible refine Ex.drew ?_ | with_reducible refine Ex.setRow ?_ _ _ (.inr (by first | exact Nat.le_refl _ | exact Nat.le_add_right _ _ | exact HE9.out.size | exact Nat.le_trans HE9.out.size (Nat.le_add_right _ _) | exact HE10.out.size))))) (by rw [List.length_append, HLJ.out]; rfl) (by omega) (HBA.out _ (fun s hs => by rw [List.mem_singleton.1 hs]; exact ⟨rfl, rfl⟩)) HC1.out).mono ?_
                 rintro e w15 ⟨r15, c15, rfl, hex⟩
                 have HE15 : Hid (Ex w12.heap.size none w12 w15) := Lib.hid (Ex.thenB (by repeat (first | with_reducible exact HE14.out | with_reducible exact Ex.refl _ _ _ | with_reducible refine Ex.allocW ?_ _ | with_reducible refine Ex.drew ?_ | with_reducible refine Ex.setRow ?_ _ _ (.inr (by first | exact Nat.le_refl _ | exact Nat.le_add_right _ _ | exact HE9.out.size | exact Nat.le_trans HE9.out.size (Nat.le_add_right _ _) | exact HE10.out.size)))) (hex.mono (show Ex w12.heap.size none w12 _ from (by repeat (first | with_reducible exact HE14.out | with_reducible exact Ex.refl _ _ _ | with_reducible refine Ex.allocW ?_ _ | with_reducible refine Ex.drew ?_ | with_reducible refine Ex.setRow ?_ _ _ (.inr (by first | exact Nat.le_refl _ | exact Nat.le_add_right _ _ | exact HE9.out.size | exact Nat.le_trans HE9.out.size (Nat.le_add_right _ _) | exact HE10.out.size))))).size))
                 clear hex)
              | (refine step_appW (by rfl) (.tmp 132) (.tmp 135) _ (by rfl) Try.underlying27 Try.infoSt w12.heap.size 0 a16 k16 j l HLJ.out (by rfl) (some ⟨_, 0, none⟩) 2 2 (by rfl) [u, af] rfl (HO16.out.keep (show Ex w16.heap.size none w16 _ from (by repeat (first | with_reducible exact Ex.refl _ _ _ | with_reducible refine Ex.allocW ?_ _ | with_reducible refine Ex.drew ?_ | with_reducible refine Ex.setRow ?_ _ _ (.inr (by first | exact Nat.le_refl _ | exact Nat.le_add_right _ _ | exact HE9.out.size | exact Nat.le_trans HE9.out.size (Nat.le_add_right _ _) | exact HE10.out.size))))) (Nat.le_refl _)) (src_lit (by (repeat (first | with_reducible exact HLa16.out.1 | with_reducible exact HLb16.out.1 | with_reducible exact heap_alloc_new _ _ | with_reducible exact heap2 _ _ _ _ | with_reducible exact heap2d _ _ _ _ | with_reducible exact heap1d _ _ _ | with_reducible refine heapD ?_ | with_reducible refine heapK ?_)); first | done | fail)) (fun x hx => HLL2.out x hx _ _) (by omega) ((show Ex w12.heap.size none w12 _ from (by repeat (first | with_reducible exact HE16.out | with_reducible exact Ex.refl _ _ _ | with_reducible refine Ex.allocW ?_ _ | with_reducible refine Ex.drew ?_ | with_reducible refine Ex.setRow ?_ _ _ (.inr (by first | exact Nat.le_refl _ | exact Nat.le_add_right _ _ | exact HE9.out.size | exact Nat.le_trans HE9.out.size (Nat.le_add_right _ _) | exact HE10.out.size))))).size) (j + 2) rfl ?_
                 intro a17 k17 w17 ho hex hk hr
                 have HS17 : Hid (∀ w', Ex w17.heap.size none w17 w' → SlAt stRep (fun _ => True) w' a17 (l ++ [goneS j t0 l, eS (j + 1) (goneS j t0 l).dig 900 10 0])) := Lib.hid (fun w' h => by
                   have h1 := (((ho.s (Nat.zero_le _)).sl).at').mono (P' := fun _ => True) (by decide) fun _ _ _ => trivial
                   simp only [List.map_cons, List.map_nil, HU.out.1, HAF.out.1] at h1
                   exact h1.keep (by decide) fun b _ hb => h.block b hb (by simp))
                 have HE17 : Hid (Ex w12.heap.size none w12 w17) := Lib.hid (Ex.thenB (by repeat (first | with_reducible exact HE16.out | with_reducible exact Ex.refl _ _ _ | with_reducible refine Ex.allocW ?_ _ | with_reducible refine Ex.drew ?_ | with_reducible refine Ex.setRow ?_ _ _ (.inr (by first | exact Nat.le_refl _ | exact Nat.le_add_right _ _ | exact HE9.out.size | exact Nat.le_trans HE9.out.size (Nat.le_add_right _ _) | exact HE10.out.size)))) hex)
                 try (have HBa17 : Hid (w17.heap[w12.heap.size]? = some (.cells #[.int .i64 0, .int .i64 0, .string ⟨#[]⟩, .int .i64 0, .int .i64 0, .int .i64 0, .int .i64 0, .int .i64 0, .slice none 0 0, .slice none 0 0, .string ⟨#[]⟩, .int .i64 0, .string ⟨#[]⟩] 33 (0, 0))) := Lib.hid (kAt hk HBa16.out.2 (by (repeat (first | with_reducible exact HBa16.out.1 | with_reducible exact heap_alloc_new _ _ | with_reducible exact heap2 _ _ _ _ | with_reducible exact heap2d _ _ _ _ | with_reducible exact heap1d _ _ _ | with_reducible refine heapD ?_ | with_reducible refine heapK ?_)); first | done | fail)))
                 try (have HBb17 : Hid (w17.heap[w12.heap.size + 1]? = some (.cells #[.int .i64 0, .int .i64 0, .string ⟨#[]⟩, .int .i64 0, .int .i64 0, .int .i64 0, .int .i64 0, .int .i64 0, .slice none 0 0, .slice none 0 0, .string ⟨#[]⟩, .int .i64 0, .string ⟨#[]⟩] 33 (0, 0))) := Lib.hid (kAt hk HBb16.out.2 (by (repeat (first | with_reducible exact HBb16.out.1 | with_reducible exact heap_alloc_new _ _ | with_reducible exact heap2 _ _ _ _ | with_reducible exact heap2d _ _ _ _ | with_reducible exact heap1d _ _ _ | with_reducible refine heapD ?_ | with_reducible refine heapK ?_)); first | done | fail)))
                 try (have HBc17 : Hid (w17.heap[w16.heap.size]? = some (.cells #[.int .i64 0, .int .i64 0, .string ⟨#[]⟩, .int .i64 0, .int .i64 0, .int .i64 0, .int .i64 0, .int .i64 0, .slice none 0 0, .slice none 0 0, .string ⟨#[]⟩, .int .i64 0, .string ⟨#[]⟩] 33 (0, 0))) := Lib.hid (kAt hk (rowFar HO16.out (Nat.le_refl _)) (by (repeat (first | with_reducible exact heap_alloc_new _ _ | with_reducible exact heap2 _ _ _ _ | with_reducible exact heap2d _ _ _ _ | with_reducible exact heap1d _ _ _ | with_reducible refine heapD ?_ | with_reducible refine heapK ?_)); first | done | fail)))
                 try (have HBd17 : Hid (w17.heap[w16.heap.size + 1]? = some (.cells #[.int .i64 0, .int .i64 0, .string ⟨#[]⟩, .int .i64 0, .int .i64 0, .int .i64 0, .int .i64 0, .int .i64 0, .slice none 0 0, .slice none 0 0, .string ⟨#[]⟩, .int .i64 0, .string ⟨#[]⟩] 33 (0, 0))) := Lib.hid (kAt hk (rowFar HO16.out (Nat.le_succ _)) (by (repeat (first | with_reducible exact heap_alloc_new _ _ | with_reducible exact heap2 _ _ _ _ | with_reducible exact heap2d _ _ _ _ | with_reducible exact heap1d _ _ _ | with_reducible refine heapD ?_ | with_reducible refine heapK ?_)); first | done | fail)))
                 clear ho hex hk hr)
              | (refine step_appW (by rfl) (.const (.slice none 0 0)) (.tmp 131) _ (by rfl) Try.underlying27 Try.infoSt w12.heap.size 0 none 0 0 [] rfl (by rfl) (some ⟨b0, off, none⟩) j rc (by rfl) xs HXN.out (OwnT.nil _ _ _) (HXQw12.out _ (by repeat (first | with_reducible exact HE15.out | with_reducible exact Ex.refl _ _ _ | with_reducible refine Ex.allocW ?_ _ | with_reducible refine Ex.drew ?_ | with_reducible refine Ex.setRow ?_ _ _ (.inr (by first | exact Nat.le_refl _ | exact Nat.le_add_right _ _ | exact HE9.out.size | exact Nat.le_trans HE9.out.size (Nat.le_add_right _ _) | exact HE10.out.size))))) (fun x hx => HXX.out.2 x hx _ _) (by omega) ((show Ex w12.heap.size none w12 _ from (by repeat (first | with_reducible exact HE15.out | with_reducible exact Ex.refl _ _ _ | with_reducible refine Ex.allocW ?_ _ | with_reducible refine Ex.drew ?_ | with_reducible refine Ex.setRow ?_ _ _ (.inr (by first | exact Nat.le_refl _ | exact Nat.le_add_right _ _ | exact HE9.out.size | exact Nat.le_trans HE9.out.size (Nat.le_add_right _ _) | exact HE10.out.size))))).size) j (by omega) ?_
                 intro a16 k16 w16 ho hex hk hr
                 have HO16 : Hid (OwnT w16 w12.heap.size 0 a16 k16 l) := Lib.hid (by rw [HXX.out.1, List.nil_append] at ho; exact ho)
                 have HE16 : Hid (Ex w12.heap.size none w12 w16) := Lib.hid (Ex.thenB (by repeat (first | with_reducible exact HE15.out | with_reducible exact Ex.refl _ _ _ | with_reducible refine Ex.allocW ?_ _ | with_reducible refine Ex.drew ?_ | with_reducible refine Ex.setRow ?_ _ _ (.inr (by first | exact Nat.le_refl _ | exact Nat.le_add_right _ _ | exact HE9.out.size | exact Nat.le_trans HE9.out.size (Nat.le_add_right _ _) | exact HE10.out.size)))) hex)
                 try (have HBa16 := Lib.hid (boxKept (b := w12.heap.size) (x := (.cells #[.int .i64 0, .int .i64 0, .string ⟨#[]⟩, .int .i64 0, .int .i64 0, .int .i64 0, .int .i64 0, .int .i64 0, .slice none 0 0, .slice none 0 0, .string ⟨#[]⟩, .int .i64 0, .string ⟨#[]⟩] 33 (0, 0))) hk hr (by (repeat (first | with_reducible exact heap_alloc_new _ _ | with_reducible exact heap2 _ _ _ _ | with_reducible exact heap2d _ _ _ _ | with_reducible exact heap1d _ _ _ | with_reducible refine heapD ?_ | with_reducible refine heapK ?_)); first | done | fail)))
                 try (have HBb16 := Lib.hid (boxKept (b := w12.heap.size + 1) (x := (.cells #[.int .i64 0, .int .i64 0, .string ⟨#[]⟩, .int .i64 0, .int .i64 0, .int .i64 0, .int .i64 0, .int .i64 0, .slice none 0 0, .slice none 0 0, .string ⟨#[]⟩, .int .i64 0, .string ⟨#[]⟩] 33 (0, 0))) hk hr (by (repeat (first | with_reducible exact heap_alloc_new _ _ | with_reducible exact heap2 _ _ _ _ | with_reducible exact heap2d _ _ _ _ | with_reducible exact heap1d _ _ _ | with_reducible refine heapD ?_ | with_reducible refine heapK ?_)); first | done | fail)))
                 try (have HLa16 := Lib.hid (boxKept (b := w15.heap.size) (x := .cells (flatL stE [u, af]).toArray 33 (0, 0)) hk hr (by (repeat (first | with_reducible exact heap_alloc_new _ _ | with_reducible exact heap2 _ _ _ _ | with_reducible exact heap2d _ _ _ _ | with_reducible exact heap1d _ _ _ | with_reducible refine heapD ?_ | with_reducible refine heapK ?_)); first | done | fail)))
                 try (have HLb16 := Lib.hid (boxKept (b := w15.heap.size + 1) (x := .cells (flatL stE [u, af]).toArray 33 (0, 0)) hk hr (by (repeat (first | with_reducible exact heap_alloc_new _ _ | with_reducible exact heap2 _ _ _ _ | with_reducible exact heap2d _ _ _ _ | with_reducible exact heap1d _ _ _ | with_reducible refine heapD ?_ | with_reducible refine heapK ?_)); first | done | fail)))
                 clear ho hex hk hr)
              | (refine step_appW (by rfl) (.tmp 120) (.tmp 122) _ (by rfl) Try.underlying27 Try.infoSt w12.heap.size 0 a13 k13 j l HLJ.out (by rfl) (some ⟨_, 0, none⟩) 1 1 (by rfl) [la] rfl (HO13.out.keep (show Ex w13.heap.size none w13 _ from (by repeat (first | with_reducible exact Ex.refl _ _ _ | with_reducible refine Ex.allocW ?_ _ | with_reducible refine Ex.drew ?_ | with_reducible refine Ex.setRow ?_ _ _ (.inr (by first | exact Nat.le_refl _ | exact Nat.le_add_right _ _ | exact HE9.out.size | exact Nat.le_trans HE9.out.size (Nat.le_add_right _ _) | exact HE10.out.size))))) (Nat.le_refl _)) (src_lit (by (repeat (first | with_reducible exact HLa13.out.1 | with_reducible exact HLb13.out.1 | with_reducible exact heap_alloc_new _ _ | with_reducible exact heap2 _ _ _ _ | with_reducible exact heap2d _ _ _ _ | with_reducible exact heap1d _ _ _ | with_reducible refine heapD ?_ | with_reducible refine heapK ?_)); first | done | fail)) (fun x hx => HLL1.out x hx _ _) (by omega) ((show Ex w12.heap.size none w12 _ from (by repeat (first | with_reducible exact HE13.out | with_reducible exact Ex.refl _ _ _ | with_reducible refine Ex.allocW ?_ _ | with_reducible refine Ex.drew ?_ | with_reducible refine Ex.setRow ?_ _ _ (.inr (by first | exact Nat.le_refl _ | exact Nat.le_add_right _ _ | exact HE9.out.size | exact Nat.le_trans HE9.out.size (Nat.le_add_right _ _) | exact HE10.out.size))))).size) (j + 1) rfl ?_
                 intro a14 k14 w14 ho hex hk hr
                 have HS14 : Hid (∀ w', Ex w14.heap.size none w14 w' → SlAt stRep (fun _ => True) w' a14 (l ++ [eS j q.dig (t0 - 1) 10 0])) := Lib.hid (fun w' h => by
                   have h1 := (((ho.s (Nat.zero_le _)).sl).at').mono (P' := fun _ => True) (by decide) fun _ _ _ => trivial
                   simp only [List.map_cons, List.map_nil, HLA.out.1] at h1
                   exact h1.keep (by decide) fun b _ hb => h.block b hb (by simp))
                 have HE14 : Hid (Ex w12.heap.size none w12 w14) := Lib.hid (Ex.thenB (by repeat (first | with_reducible exact HE13.out | with_reducible exact Ex.refl _ _ _ | with_reducible refine Ex.allocW ?_ _ | with_reducible refine Ex.drew ?_ | with_reducible refine Ex.setRow ?_ _ _ (.inr (by first | exact Nat.le_refl _ | exact Nat.le_add_right _ _ | exact HE9.out.size | exact Nat.le_trans HE9.out.size (Nat.le_add_right _ _) | exact HE10.out.size)))) hex)
                 try (have HBa14 : Hid (w14.heap[w12.heap.size]? = some (.cells #[.int .i64 0, .int .i64 0, .string ⟨#[]⟩, .int .i64 0, .int .i64 0, .int .i64 0, .int .i64 0, .int .i64 0, .slice none 0 0, .slice none 0 0, .string ⟨#[]⟩, .int .i64 0, .string ⟨#[]⟩] 33 (0, 0))) := Lib.hid (kAt hk HBa13.out.2 (by (repeat (first | with_reducible exact HBa13.out.1 | with_reducible exact heap_alloc_new _ _ | with_reducible exact heap2 _ _ _ _ | with_reducible exact heap2d _ _ _ _ | with_reducible exact heap1d _ _ _ | with_reducible refine heapD ?_ | with_reducible refine heapK ?_)); first | done | fail)))
                 try (have HBb14 : Hid (w14.heap[w12.heap.size + 1]? = some (.cells #[.int .i64 0, .int .i64 0, .string ⟨#[]⟩, .int .i64 0, .int .i64 0, .int .i64 0, .int .i64 0, .int .i64 0, .slice none 0 0, .slice none 0 0, .string ⟨#[]⟩, .int .i64 0, .string ⟨#[]⟩] 33 (0, 0))) := Lib.hid (kAt hk HBb13.out.2 (by (repeat (first | with_reducible exact HBb13.out.1 | with_reducible exact heap_alloc_new _ _ | with_reducible exact heap2 _ _ _ _ | with_reducible exact heap2d _ _ _ _ | with_reducible exact heap1d _ _ _ | with_reducible refine heapD ?_ | with_reducible refine heapK ?_)); first | done | fail)))
                 try (have HBc14 : Hid (w14.heap[w13.heap.size]? = some (.cells #[.int .i64 0, .int .i64 0, .string ⟨#[]⟩, .int .i64 0, .int .i64 0, .int .i64 0, .int .i64 0, .int .i64 0, .slice none 0 0, .slice none 0 0, .string ⟨#[]⟩, .int .i64 0, .string ⟨#[]⟩] 33 (0, 0))) := Lib.hid (kAt hk (rowFar HO13.out (Nat.le_refl _)) (by (repeat (first | with_reducible exact heap_alloc_new _ _ | with_reducible exact heap2 _ _ _ _ | with_reducible exact heap2d _ _ _ _ | with_reducible exact heap1d _ _ _ | with_reducible refine heapD ?_ | with_reducible refine heapK ?_)); first | done | fail)))
                 try (have HBd14 : Hid (w14.heap[w13.heap.size + 1]? = some (.cells #[.int .i64 0, .int .i64 0, .string ⟨#[]⟩, .int .i64 0, .int .i64 0, .int .i64 0, .int .i64 0, .int .i64 0, .slice none 0 0, .slice none 0 0, .string ⟨#[]⟩, .int .i64 0, .string ⟨#[]⟩] 33 (0, 0))) := Lib.hid (kAt hk (rowFar HO13.out (Nat.le_succ _)) (by (repeat (first | with_reducible exact heap_alloc_new _ _ | with_reducible exact heap2 _ _ _ _ | with_reducible exact heap2d _ _ _ _ | with_reducible exact heap1d _ _ _ | with_reducible refine heapD ?_ | with_reducible refine heapK ?_)); first | done | fail)))
                 clear ho hex hk hr)
              | (refine step_appW (by rfl) (.const (.slice none 0 0)) (.tmp 119) _ (by rfl) Try.underlying27 Try.infoSt w12.heap.size 0 none 0 0 [] rfl (by rfl) (some ⟨b0, off, none⟩) j rc (by rfl) xs HXN.out (OwnT.nil _ _ _) (HXQw12.out _ (by repeat (first | with_reducible exact HEA.out | with_reducible exact Ex.refl _ _ _ | with_reducible refine Ex.allocW ?_ _ | with_reducible refine Ex.drew ?_ | with_reducible refine Ex.setRow ?_ _ _ (.inr (by first | exact Nat.le_refl _ | exact Nat.le_add_right _ _ | exact HE9.out.size | exact Nat.le_trans HE9.out.size (Nat.le_add_right _ _) | exact HE10.out.size))))) (fun x hx => HXX.out.2 x hx _ _) (by omega) ((show Ex w12.heap.size none w12 _ from (by repeat (first | with_reducible exact HEA.out | with_reducible exact Ex.refl _ _ _ | with_reducible refine Ex.allocW ?_ _ | with_reducible refine Ex.drew ?_ | with_reducible refine Ex.setRow ?_ _ _ (.inr (by first | exact Nat.le_refl _ | exact Nat.le_add_right _ _ | exact HE9.out.size | exact Nat.le_trans HE9.out.size (Nat.le_add_right _ _) | exact HE10.out.size))))).size) j (by omega) ?_
                 intro a13 k13 w13 ho hex hk hr
                 have HO13 : Hid (OwnT w13 w12.heap.size 0 a13 k13 l) := Lib.hid (by rw [HXX.out.1, List.nil_append] at ho; exact ho)
                 have HE13 : Hid (Ex w12.heap.size none w12 w13) := Lib.hid (Ex.thenB (by repeat (first | with_reducible exact HEA.out | with_reducible exact Ex.refl _ _ _ | with_reducible refine Ex.allocW ?_ _ | with_reducible refine Ex.drew ?_ | with_reducible refine Ex.setRow ?_ _ _ (.inr (by first | exact Nat.le_refl _ | exact Nat.le_add_right _ _ | exact HE9.out.size | exact Nat.le_trans HE9.out.size (Nat.le_add_right _ _) | exact HE10.out.size)))) hex)
                 try (have HBa13 := Lib.hid (boxKept (b := w12.heap.size) (x := (.cells #[.int .i64 0, .int .i64 0, .string ⟨#[]⟩, .int .i64 0, .int .i64 0, .int .i64 0, .int .i64 0, .int .i64 0, .slice none 0 0, .slice none 0 0, .string ⟨#[]⟩, .int .i64 0, .string ⟨#[]⟩] 33 (0, 0))) hk hr (by (repeat (first | with_reducible exact heap_alloc_new _ _ | with_reducible exact heap2 _ _ _ _ | with_reducible exact heap2d _ _ _ _ | with_reducible exact heap1d _ _ _ | with_reducible refine heapD ?_ | with_reducible refine heapK ?_)); first | done | fail)))
                 try (have HBb13 := Lib.hid (boxKept (b := w12.heap.size + 1) (x := (.cells #[.int .i64 0, .int .i64 0, .string ⟨#[]⟩, .int .i64 0, .int .i64 0, .int .i64 0, .int .i64 0, .int .i64 0, .slice none 0 0, .slice none 0 0, .string ⟨#[]⟩, .int .i64 0, .string ⟨#[]⟩] 33 (0, 0))) hk hr (by (repeat (first | with_reducible exact heap_alloc_new _ _ | with_reducible exact heap2 _ _ _ _ | with_reducible exact heap2d _ _ _ _ | with_reducible exact heap1d _ _ _ | with_reducible refine heapD ?_ | with_reducible refine heapK ?_)); first | done | fail)))
                 try (have HLa13 := Lib.hid (boxKept (b := wA.heap.size) (x := .cells (flatL stE [la]).toArray 33 (0, 0)) hk hr (by (repeat (first | with_reducible exact heap_alloc_new _ _ | with_reducible exact heap2 _ _ _ _ | with_reducible exact heap2d _ _ _ _ | with_reducible exact heap1d _ _ _ | with_reducible refine heapD ?_ | with_reducible refine heapK ?_)); first | done | fail)))
                 try (have HLb13 := Lib.hid (boxKept (b := wA.heap.size + 1) (x := .cells (flatL stE [la]).toArray 33 (0, 0)) hk hr (by (repeat (first | with_reducible exact heap_alloc_new _ _ | with_reducible exact heap2 _ _ _ _ | with_reducible exact heap2d _ _ _ _ | with_reducible exact heap1d _ _ _ | with_reducible refine heapD ?_ | with_reducible refine heapK ?_)); first | done | fail)))
                 clear ho hex hk hr)
              | fail)) | fail
            all_goals go_wp2_with (fail)
            all_goals go_ret
            all_goals exact ⟨rfl, (HEX.out.trans (HE4.out.thenW (HE7.out.thenW (HE10.out.thenW (HE12.out.thenW HE18.out)))) hsz (by simp)).below⟩

  · have k1 : decide ((L.length : Int) ≤ 400) = false := decide_eq_false hm
    clear hm
    go_enter Try.func3, Try.ntmps3
    go_wp2_with (first
      | (go_at_call 4; refine (madeLight_any _ _ _ _).mono ?_; rintro e w' ⟨rfl, rfl⟩)
      | (go_at_call 5
         refine (awake04_any w).mono ?_
         rintro e w' ⟨rfl, hex⟩
         have HE := Lib.hid hex
         clear hex)
      | fail)
    go_ret
    exact ⟨rfl, HE.out.below⟩
end Go.Proofs.Ytaakacahblndcaa

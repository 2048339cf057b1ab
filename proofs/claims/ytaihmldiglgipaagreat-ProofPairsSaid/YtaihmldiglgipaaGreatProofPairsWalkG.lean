/- ProofPairs: the walk. No statement of the seat. -/
import Derived.Test.YtaihmldiglgipaaGreatMg15
import Derived.Test.YtaihmldiglgipaaGreatMg16
import Derived.Test.YtaihmldiglgipaaGreatMg03
import Derived.Deep.RegionHeld3
namespace Go.Proofs.YtaihmldiglgipaaGreat
open Go.RowKit Go.Sort

theorem bds_u8p {a : Int} (h : (Lit.int .u8 a).wf = true) : 0 ≤ a ∧ a ≤ 255 := by
  simp only [Lit.wf, Bool.and_eq_true, decide_eq_true_eq] at h
  exact h
attribute [local go_sem ↓] rowLoad_stv rowStore_stv rowLoad_prf rowStore_prf
set_option maxHeartbeats 32000000 in
set_option maxRecDepth 100000 in
theorem proofPairs_walk (v : Value) (f : Int) (L : List Int) (w : World) (hv : Ints w v L) (hm0 : L.length ≤ 9223372036854775807) (hf : 0 ≤ f ∧ f ≤ 255) :
    Calls Tryz.prog 3 #[v, .int .u8 f] w fun e w' => e = .returned (.bool true) ∧ Below w.heap.size w w' := by
  obtain ⟨ao, cap, rfl, hx⟩ := hv
  have HX := Lib.hid hx
  clear hx
  obtain ⟨hf1, hf2⟩ := hf
  by_cases hm : L.length ≤ 400
  · have hmI : (L.length : Int) ≤ 400 := by omega
    go_enter Tryz.func3, Tryz.ntmps3
    go_wp2_with (first
      | (go_at_call 5; refine (light_any _ _ _ _).mono ?_; rintro e w' ⟨rfl, rfl⟩)
      | (go_at_call 7
         refine (roll_any (.slice ao L.length cap) L w ⟨ao, cap, rfl, HX.out⟩ (by omega)).mono ?_
         rintro e w1 ⟨p, rfl, hd, hp1, hp2, hex⟩
         have HD1 : Hid (DiceOK (p + 1) w1 p) := Lib.hid ⟨_, hd⟩
         have HE1 : Hid (Ex w.heap.size none w w1) := Lib.hid hex
         have hz1 : w.heap.size ≤ w1.heap.size := hex.size
         clear hd hex)
      | (go_at_call 9
         refine (papers_w (p + 1) p w1 HD1.out hp2).mono ?_
         rintro e w2 ⟨⟨so, sc, l, rfl, hsl, hsn, hlt⟩, hd, hex⟩
         have HS2 : Hid (SlAt stRep (fun _ => True) w2 so l ∧ l.length ≤ 12 ∧ ∀ s ∈ l, s.list.length ≤ 100 ∧ s.pins.length ≤ 100) := Lib.hid ⟨hsl, hsn, hlt⟩
         have HE2 : Hid (Ex w.heap.size none w w2) := Lib.hid (HE1.out.trans hex hz1 (fun q e h => by cases e; omega))
         have hz2 : w1.heap.size ≤ w2.heap.size := hex.size
         clear hsl hsn hlt hd hex)
      | (go_at_call 8
         refine (findV_any (P := fun _ => True) (.slice so l.length sc) l w2 ⟨_, _, rfl, HS2.out.1⟩ (by have := HS2.out.2.1; omega) (fun s hs => by have := HS2.out.2.2 s hs; exact ⟨by omega, by omega⟩)).mono ?_
         rintro e w3 ⟨⟨po, pc, ps, rfl, hfr, hsl⟩, hex⟩
         obtain ⟨n, hn⟩ : ∃ n, n = ps.length := ⟨_, rfl⟩
         have HN : Hid (n = ps.length) := Lib.hid hn
         have HFS : Hid (SlAt prRep (fun _ => True) w3 po ps) := Lib.hid hsl
         have HOK : Hid (∀ p ∈ ps, PairOK p ∧ LightS p.2.1 ∧ LightS p.2.2) := Lib.hid (fun p hp => by
           obtain ⟨h1, h2, h3⟩ := hfr.ok p hp
           have k2 := HS2.out.2.2 _ h2
           have k3 := HS2.out.2.2 _ h3
           exact ⟨h1, ⟨by omega, by omega⟩, ⟨by omega, by omega⟩⟩)
         have hn1 : n ≤ 832 := by
           have h1 := hfr.len
           have h2 := HS2.out.2.1
           rw [hn]; omega
         have HE3 : Hid (Ex w.heap.size none w w3) := Lib.hid (HE2.out.thenW hex)
         rw [← hn]
         clear hfr hsl hex hn)
      | fail)
    go_loopw [7] (fun i wr => ∃ k : Nat, k ≤ n ∧ i = .int .i64 k ∧ Ex w3.heap.size none w3 wr) (fun i _ => n - (intOf i).toNat)
    case atStart => exact ⟨0, Nat.zero_le _, rfl, Ex.refl _ _ _⟩
    case round =>
      obtain ⟨k, hk, rfl, hex⟩ := hrel
      have HEX := Lib.hid hex
      clear hex
      by_cases hlt : k < n
      · have hltI : (k : Int) < (n : Int) := by omega
        obtain ⟨pb, off, x, rfl, _, hpb, hxd, hxl, hxr⟩ := prv_get2 HFS.out k (by rw [← HN.out]; exact hlt)
        have HP : Hid (PairOK x.d ∧ LightS x.2.1.1 ∧ LightS x.2.2.1) := Lib.hid (HOK.out x.d (List.mem_of_getElem? hxd.out))
        have HPX : Hid (∀ w', Ex w3.heap.size none w3 w' → (rowLoad 37 ⟨pb, off + k * 27, none⟩).run Tryz.prog w' = .ok (prV x) w' ∧ (rowLoad 35 ⟨pb, off + k * 27 + 1, none⟩).run Tryz.prog w' = .ok (stV x.2.1) w' ∧ (rowLoad 35 ⟨pb, off + k * 27 + 14, none⟩).run Tryz.prog w' = .ok (stV x.2.2) w' ∧ w'.cell? ⟨pb, off + k * 27 + 14, none⟩ = some (.int .i64 x.2.2.1.author)) := Lib.hid (fun w' h => pr_parts (hxr.out w' (h.block _ hpb (by simp))))
        have HPL : Hid (∀ w', Ex w3.heap.size none w3 w' → (rowLoad 35 ⟨pb, off + k * 27 + 1, none⟩).run Tryz.prog w' = .ok (stV x.2.1) w' ∧ (rowLoad 35 ⟨pb, off + k * 27 + 14, none⟩).run Tryz.prog w' = .ok (stV x.2.2) w') := Lib.hid (fun w' h => ⟨(HPX.out w' h).2.1, (HPX.out w' h).2.2.1⟩)
        have HLX : Hid (∀ w', Ex w3.heap.size none w3 w' → LiesP (fun _ => True) w' x) := Lib.hid (fun w' h => hxl.keep fun b _ hb => h.block b hb (by simp))
        clear hxd hxl hxr
        go_upto_region 8 with (fail)
        refine wp_region_pb 94 15 [some (.slice (some ⟨pb, off, none⟩) n pc), some (.int .i64 k), some (.pointer (some ⟨pb, off + k * 27, none⟩)), some (prV x), some (.slice (some ⟨pb, off, none⟩) n pc), some (.int .i64 k), some (.pointer (some ⟨pb, off + k * 27, none⟩)), some (prV x), some (.slice (some ⟨pb, off, none⟩) n pc), some (.int .i64 k), some (.pointer (some ⟨pb, off + k * 27, none⟩)), some (prV x), none, none, none] [(12, 15), (13, 16), (14, 17)] #[.int .i64 0, .int .i64 0, .int .i64 0, .string ⟨#[]⟩, .int .i64 0, .int .i64 0, .int .i64 0, .int .i64 0, .int .i64 0, .slice none 0 0, .slice none 0 0, .string ⟨#[]⟩, .int .i64 0, .string ⟨#[]⟩, .int .i64 0, .int .i64 0, .string ⟨#[]⟩, .int .i64 0, .int .i64 0, .int .i64 0, .int .i64 0, .int .i64 0, .slice none 0 0, .slice none 0 0, .string ⟨#[]⟩, .int .i64 0, .string ⟨#[]⟩] (prE x).toArray 37 (by kernel_rfl) (by kernel_rfl) rfl ?_ ?_ ?_ ?_
        · refine ⟨?_, ?_, ?_, ?_, ?_, ?_, ?_, ?_, ?_, ?_, ?_, ?_, trivial⟩
          · -- 0 move
            intro a' w' hR hF hK
            have e6 : a'.eval (.tmp 6) = .slice (some ⟨pb, off, none⟩) n pc := hF.evalB 6 (by kernel_rfl)
            generalize a'.eval = ev at e6 ⊢
            go_simp
          · -- 1 move
            intro a' w' hR hF hK
            have e7 : a'.eval (.tmp 7) = .int .i64 k := hF.evalB 7 (by kernel_rfl)
            generalize a'.eval = ev at e7 ⊢
            go_simp
          · -- 2 indexAddr
            intro a' w' hR hF hK
            have e27 : a'.eval (.tmp 27) = .slice (some ⟨pb, off, none⟩) n pc := hK { on := 0, ground := .data } (by simp) rfl _ rfl
            have e28 : a'.eval (.tmp 28) = .int .i64 k := hK { on := 1, ground := .data } (by simp) rfl _ rfl
            generalize a'.eval = ev at e27 e28 ⊢
            go_simp
          · -- 3 load
            intro a' w' hR hF hK
            have e29 : a'.eval (.tmp 29) = .pointer (some ⟨pb, off + k * 27, none⟩) := hK { on := 2, ground := .data } (by simp) rfl _ rfl
            obtain ⟨lp, l1, l2, c2⟩ := HPX.out w' (HEX.out.thenW hR)
            generalize a'.eval = ev at e29 ⊢
            go_simp
          · -- 4 move
            intro a' w' hR hF hK
            have e6 : a'.eval (.tmp 6) = .slice (some ⟨pb, off, none⟩) n pc := hF.evalB 6 (by kernel_rfl)
            generalize a'.eval = ev at e6 ⊢
            go_simp
          · -- 5 move
            intro a' w' hR hF hK
            have e7 : a'.eval (.tmp 7) = .int .i64 k := hF.evalB 7 (by kernel_rfl)
            generalize a'.eval = ev at e7 ⊢
            go_simp
          · -- 6 indexAddr
            intro a' w' hR hF hK
            have e31 : a'.eval (.tmp 31) = .slice (some ⟨pb, off, none⟩) n pc := hK { on := 4, ground := .data } (by simp) rfl _ rfl
            have e32 : a'.eval (.tmp 32) = .int .i64 k := hK { on := 5, ground := .data } (by simp) rfl _ rfl
            generalize a'.eval = ev at e31 e32 ⊢
            go_simp
          · -- 7 load
            intro a' w' hR hF hK
            have e33 : a'.eval (.tmp 33) = .pointer (some ⟨pb, off + k * 27, none⟩) := hK { on := 6, ground := .data } (by simp) rfl _ rfl
            obtain ⟨lp, l1, l2, c2⟩ := HPX.out w' (HEX.out.thenW hR)
            generalize a'.eval = ev at e33 ⊢
            go_simp
          · -- 8 move
            intro a' w' hR hF hK
            have e6 : a'.eval (.tmp 6) = .slice (some ⟨pb, off, none⟩) n pc := hF.evalB 6 (by kernel_rfl)
            generalize a'.eval = ev at e6 ⊢
            go_simp
          · -- 9 move
            intro a' w' hR hF hK
            have e7 : a'.eval (.tmp 7) = .int .i64 k := hF.evalB 7 (by kernel_rfl)
            generalize a'.eval = ev at e7 ⊢
            go_simp
          · -- 10 indexAddr
            intro a' w' hR hF hK
            have e35 : a'.eval (.tmp 35) = .slice (some ⟨pb, off, none⟩) n pc := hK { on := 8, ground := .data } (by simp) rfl _ rfl
            have e36 : a'.eval (.tmp 36) = .int .i64 k := hK { on := 9, ground := .data } (by simp) rfl _ rfl
            generalize a'.eval = ev at e35 e36 ⊢
            go_simp
          · -- 11 load
            intro a' w' hR hF hK
            have e37 : a'.eval (.tmp 37) = .pointer (some ⟨pb, off + k * 27, none⟩) := hK { on := 10, ground := .data } (by simp) rfl _ rfl
            obtain ⟨lp, l1, l2, c2⟩ := HPX.out w' (HEX.out.thenW hR)
            generalize a'.eval = ev at e37 ⊢
            go_simp
        · intro x' hx' o ho a' w'
          simp only [List.mem_cons, List.not_mem_nil, or_false] at hx'
          rcases hx' with rfl | rfl | rfl <;> (obtain rfl := Option.some.inj ho; generalize a'.eval = ev; go_simp)
        · intro x' hx' o ho a' w' b hb hK hg
          simp only [List.mem_cons, List.not_mem_nil, or_false] at hx'
          rcases hx' with rfl | rfl | rfl
          · obtain rfl := Option.some.inj ho
            have e8 : a'.eval (.tmp 8) = .pointer (some ⟨b, 0, none⟩) := hb
            have e30 : a'.eval (.tmp 30) = prV x := hK { on := 3, ground := .data } (by simp) rfl _ rfl
            have hst := prV_set x hg rfl
            generalize a'.eval = ev at e8 e30 ⊢
            go_simp
          · obtain rfl := Option.some.inj ho
            have e9 : a'.eval (.tmp 9) = .pointer (some ⟨b, 0, none⟩) := hb
            have e34 : a'.eval (.tmp 34) = prV x := hK { on := 7, ground := .data } (by simp) rfl _ rfl
            have hst := prV_set x hg rfl
            generalize a'.eval = ev at e9 e34 ⊢
            go_simp
          · obtain rfl := Option.some.inj ho
            have e10 : a'.eval (.tmp 10) = .pointer (some ⟨b, 0, none⟩) := hb
            have e38 : a'.eval (.tmp 38) = prV x := hK { on := 11, ground := .data } (by simp) rfl _ rfl
            have hst := prV_set x hg rfl
            generalize a'.eval = ev at e10 e38 ⊢
            go_simp
        · intro a' w' hR hF hI hX hD
          obtain ⟨b1, e8, hb1, hc1⟩ := hX (12, 15) (by simp)
          obtain ⟨b2, e9, hb2, hc2⟩ := hX (13, 16) (by simp)
          obtain ⟨b3, e10, hb3, hc3⟩ := hX (14, 17) (by simp)
          have hn12 : b1 ≠ b2 := fun h => hD (12, 15) (by simp) (13, 16) (by simp) (by decide) (e8.trans (by rw [h]; exact e9.symm))
          have hn13 : b1 ≠ b3 := fun h => hD (12, 15) (by simp) (14, 17) (by simp) (by decide) (e8.trans (by rw [h]; exact e10.symm))
          have hn23 : b2 ≠ b3 := fun h => hD (13, 16) (by simp) (14, 17) (by simp) (by decide) (e9.trans (by rw [h]; exact e10.symm))
          replace e8 : a'.eval (.tmp 8) = .pointer (some ⟨b1, 0, none⟩) := e8
          replace e9 : a'.eval (.tmp 9) = .pointer (some ⟨b2, 0, none⟩) := e9
          replace e10 : a'.eval (.tmp 10) = .pointer (some ⟨b3, 0, none⟩) := e10
          clear hD hX
          obtain ⟨u4, e4⟩ : ∃ u, a'.eval (.tmp 4) = u := ⟨_, rfl⟩
          obtain ⟨u11, e11⟩ : ∃ u, a'.eval (.tmp 11) = u := ⟨_, rfl⟩
          obtain ⟨u21, e21⟩ : ∃ u, a'.eval (.tmp 21) = u := ⟨_, rfl⟩
          obtain ⟨u22, e22⟩ : ∃ u, a'.eval (.tmp 22) = u := ⟨_, rfl⟩
          obtain ⟨u23, e23⟩ : ∃ u, a'.eval (.tmp 23) = u := ⟨_, rfl⟩
          obtain ⟨u24, e24⟩ : ∃ u, a'.eval (.tmp 24) = u := ⟨_, rfl⟩
          obtain ⟨u25, e25⟩ : ∃ u, a'.eval (.tmp 25) = u := ⟨_, rfl⟩
          obtain ⟨u26, e26⟩ : ∃ u, a'.eval (.tmp 26) = u := ⟨_, rfl⟩
          obtain ⟨u39, e39⟩ : ∃ u, a'.eval (.tmp 39) = u := ⟨_, rfl⟩
          obtain ⟨u40, e40⟩ : ∃ u, a'.eval (.tmp 40) = u := ⟨_, rfl⟩
          obtain ⟨u41, e41⟩ : ∃ u, a'.eval (.tmp 41) = u := ⟨_, rfl⟩
          obtain ⟨u42, e42⟩ : ∃ u, a'.eval (.tmp 42) = u := ⟨_, rfl⟩
          obtain ⟨u43, e43⟩ : ∃ u, a'.eval (.tmp 43) = u := ⟨_, rfl⟩
          obtain ⟨u44, e44⟩ : ∃ u, a'.eval (.tmp 44) = u := ⟨_, rfl⟩
          obtain ⟨u45, e45⟩ : ∃ u, a'.eval (.tmp 45) = u := ⟨_, rfl⟩
          obtain ⟨u46, e46⟩ : ∃ u, a'.eval (.tmp 46) = u := ⟨_, rfl⟩
          obtain ⟨u47, e47⟩ : ∃ u, a'.eval (.tmp 47) = u := ⟨_, rfl⟩
          obtain ⟨u48, e48⟩ : ∃ u, a'.eval (.tmp 48) = u := ⟨_, rfl⟩
          obtain ⟨u49, e49⟩ : ∃ u, a'.eval (.tmp 49) = u := ⟨_, rfl⟩
          obtain ⟨u50, e50⟩ : ∃ u, a'.eval (.tmp 50) = u := ⟨_, rfl⟩
          obtain ⟨u51, e51⟩ : ∃ u, a'.eval (.tmp 51) = u := ⟨_, rfl⟩
          obtain ⟨u52, e52⟩ : ∃ u, a'.eval (.tmp 52) = u := ⟨_, rfl⟩
          obtain ⟨u53, e53⟩ : ∃ u, a'.eval (.tmp 53) = u := ⟨_, rfl⟩
          obtain ⟨u54, e54⟩ : ∃ u, a'.eval (.tmp 54) = u := ⟨_, rfl⟩
          obtain ⟨u55, e55⟩ : ∃ u, a'.eval (.tmp 55) = u := ⟨_, rfl⟩
          obtain ⟨u56, e56⟩ : ∃ u, a'.eval (.tmp 56) = u := ⟨_, rfl⟩
          obtain ⟨u57, e57⟩ : ∃ u, a'.eval (.tmp 57) = u := ⟨_, rfl⟩
          obtain ⟨u58, e58⟩ : ∃ u, a'.eval (.tmp 58) = u := ⟨_, rfl⟩
          obtain ⟨u59, e59⟩ : ∃ u, a'.eval (.tmp 59) = u := ⟨_, rfl⟩
          obtain ⟨u60, e60⟩ : ∃ u, a'.eval (.tmp 60) = u := ⟨_, rfl⟩
          obtain ⟨u61, e61⟩ : ∃ u, a'.eval (.tmp 61) = u := ⟨_, rfl⟩
          obtain ⟨u62, e62⟩ : ∃ u, a'.eval (.tmp 62) = u := ⟨_, rfl⟩
          obtain ⟨u63, e63⟩ : ∃ u, a'.eval (.tmp 63) = u := ⟨_, rfl⟩
          obtain ⟨u64, e64⟩ : ∃ u, a'.eval (.tmp 64) = u := ⟨_, rfl⟩
          obtain ⟨u65, e65⟩ : ∃ u, a'.eval (.tmp 65) = u := ⟨_, rfl⟩
          obtain ⟨u66, e66⟩ : ∃ u, a'.eval (.tmp 66) = u := ⟨_, rfl⟩
          obtain ⟨u67, e67⟩ : ∃ u, a'.eval (.tmp 67) = u := ⟨_, rfl⟩
          obtain ⟨u68, e68⟩ : ∃ u, a'.eval (.tmp 68) = u := ⟨_, rfl⟩
          obtain ⟨u69, e69⟩ : ∃ u, a'.eval (.tmp 69) = u := ⟨_, rfl⟩
          obtain ⟨u70, e70⟩ : ∃ u, a'.eval (.tmp 70) = u := ⟨_, rfl⟩
          obtain ⟨u71, e71⟩ : ∃ u, a'.eval (.tmp 71) = u := ⟨_, rfl⟩
          obtain ⟨u72, e72⟩ : ∃ u, a'.eval (.tmp 72) = u := ⟨_, rfl⟩
          obtain ⟨u73, e73⟩ : ∃ u, a'.eval (.tmp 73) = u := ⟨_, rfl⟩
          obtain ⟨u74, e74⟩ : ∃ u, a'.eval (.tmp 74) = u := ⟨_, rfl⟩
          obtain ⟨u75, e75⟩ : ∃ u, a'.eval (.tmp 75) = u := ⟨_, rfl⟩
          obtain ⟨u76, e76⟩ : ∃ u, a'.eval (.tmp 76) = u := ⟨_, rfl⟩
          obtain ⟨u77, e77⟩ : ∃ u, a'.eval (.tmp 77) = u := ⟨_, rfl⟩
          obtain ⟨u78, e78⟩ : ∃ u, a'.eval (.tmp 78) = u := ⟨_, rfl⟩
          obtain ⟨u79, e79⟩ : ∃ u, a'.eval (.tmp 79) = u := ⟨_, rfl⟩
          obtain ⟨u80, e80⟩ : ∃ u, a'.eval (.tmp 80) = u := ⟨_, rfl⟩
          obtain ⟨u81, e81⟩ : ∃ u, a'.eval (.tmp 81) = u := ⟨_, rfl⟩
          obtain ⟨u82, e82⟩ : ∃ u, a'.eval (.tmp 82) = u := ⟨_, rfl⟩
          obtain ⟨u83, e83⟩ : ∃ u, a'.eval (.tmp 83) = u := ⟨_, rfl⟩
          obtain ⟨u84, e84⟩ : ∃ u, a'.eval (.tmp 84) = u := ⟨_, rfl⟩
          obtain ⟨u85, e85⟩ : ∃ u, a'.eval (.tmp 85) = u := ⟨_, rfl⟩
          obtain ⟨u86, e86⟩ : ∃ u, a'.eval (.tmp 86) = u := ⟨_, rfl⟩
          obtain ⟨u87, e87⟩ : ∃ u, a'.eval (.tmp 87) = u := ⟨_, rfl⟩
          obtain ⟨u88, e88⟩ : ∃ u, a'.eval (.tmp 88) = u := ⟨_, rfl⟩
          obtain ⟨u89, e89⟩ : ∃ u, a'.eval (.tmp 89) = u := ⟨_, rfl⟩
          obtain ⟨u90, e90⟩ : ∃ u, a'.eval (.tmp 90) = u := ⟨_, rfl⟩
          obtain ⟨u91, e91⟩ : ∃ u, a'.eval (.tmp 91) = u := ⟨_, rfl⟩
          obtain ⟨u92, e92⟩ : ∃ u, a'.eval (.tmp 92) = u := ⟨_, rfl⟩
          have e0 : a'.eval (.tmp 0) = .slice ao L.length cap := hF.evalB 0 (by kernel_rfl)
          have e1 : a'.eval (.tmp 1) = .int .u8 f := hF.evalB 1 (by kernel_rfl)
          have e2 : a'.eval (.tmp 2) = undef := hF.evalB 2 (by kernel_rfl)
          have e3 : a'.eval (.tmp 3) = undef := hF.evalB 3 (by kernel_rfl)
          have e5 : a'.eval (.tmp 5) = .pointer (some ⟨p, 0, none⟩) := hF.evalB 5 (by kernel_rfl)
          have e6 : a'.eval (.tmp 6) = .slice (some ⟨pb, off, none⟩) n pc := hF.evalB 6 (by kernel_rfl)
          have e7 : a'.eval (.tmp 7) = .int .i64 k := hF.evalB 7 (by kernel_rfl)
          have e12 : a'.eval (.tmp 12) = .slice ao L.length cap := hF.evalB 12 (by kernel_rfl)
          have e13 : a'.eval (.tmp 13) = .bool true := hF.evalB 13 (by kernel_rfl)
          have e14 : a'.eval (.tmp 14) = .bool false := hF.evalB 14 (by kernel_rfl)
          have e15 : a'.eval (.tmp 15) = undef := hF.evalB 15 (by kernel_rfl)
          have e16 : a'.eval (.tmp 16) = .slice ao L.length cap := hF.evalB 16 (by kernel_rfl)
          have e17 : a'.eval (.tmp 17) = .pointer (some ⟨p, 0, none⟩) := hF.evalB 17 (by kernel_rfl)
          have e18 : a'.eval (.tmp 18) = .pointer (some ⟨p, 0, none⟩) := hF.evalB 18 (by kernel_rfl)
          have e19 : a'.eval (.tmp 19) = .slice so l.length sc := hF.evalB 19 (by kernel_rfl)
          have e20 : a'.eval (.tmp 20) = .slice (some ⟨pb, off, none⟩) n pc := hF.evalB 20 (by kernel_rfl)
          have e27 : a'.eval (.tmp 27) = .slice (some ⟨pb, off, none⟩) n pc := hI 0 _ rfl (by show (0 : Nat) < 18; omega)
          have e28 : a'.eval (.tmp 28) = .int .i64 k := hI 1 _ rfl (by show (1 : Nat) < 18; omega)
          have e29 : a'.eval (.tmp 29) = .pointer (some ⟨pb, off + k * 27, none⟩) := hI 2 _ rfl (by show (2 : Nat) < 18; omega)
          have e30 : a'.eval (.tmp 30) = prV x := hI 3 _ rfl (by show (3 : Nat) < 18; omega)
          have e31 : a'.eval (.tmp 31) = .slice (some ⟨pb, off, none⟩) n pc := hI 4 _ rfl (by show (4 : Nat) < 18; omega)
          have e32 : a'.eval (.tmp 32) = .int .i64 k := hI 5 _ rfl (by show (5 : Nat) < 18; omega)
          have e33 : a'.eval (.tmp 33) = .pointer (some ⟨pb, off + k * 27, none⟩) := hI 6 _ rfl (by show (6 : Nat) < 18; omega)
          have e34 : a'.eval (.tmp 34) = prV x := hI 7 _ rfl (by show (7 : Nat) < 18; omega)
          have e35 : a'.eval (.tmp 35) = .slice (some ⟨pb, off, none⟩) n pc := hI 8 _ rfl (by show (8 : Nat) < 18; omega)
          have e36 : a'.eval (.tmp 36) = .int .i64 k := hI 9 _ rfl (by show (9 : Nat) < 18; omega)
          have e37 : a'.eval (.tmp 37) = .pointer (some ⟨pb, off + k * 27, none⟩) := hI 10 _ rfl (by show (10 : Nat) < 18; omega)
          have e38 : a'.eval (.tmp 38) = prV x := hI 11 _ rfl (by show (11 : Nat) < 18; omega)
          have e93 : a'.eval (.tmp 93) = undef := hF.evalB 93 (by kernel_rfl)
          have ha := act_eta a'
          rw [show a'.tmps.size = 94 from hF.2.1, show a'.defers = [] from hF.2.2, show List.range 94 = [0, 1, 2, 3, 4, 5, 6, 7, 8, 9, 10, 11, 12, 13, 14, 15, 16, 17, 18, 19, 20, 21, 22, 23, 24, 25, 26, 27, 28, 29, 30, 31, 32, 33, 34, 35, 36, 37, 38, 39, 40, 41, 42, 43, 44, 45, 46, 47, 48, 49, 50, 51, 52, 53, 54, 55, 56, 57, 58, 59, 60, 61, 62, 63, 64, 65, 66, 67, 68, 69, 70, 71, 72, 73, 74, 75, 76, 77, 78, 79, 80, 81, 82, 83, 84, 85, 86, 87, 88, 89, 90, 91, 92, 93] from rfl] at ha
          simp only [List.map_cons, List.map_nil, e0, e1, e2, e3, e4, e5, e6, e7, e8, e9, e10, e11, e12, e13, e14, e15, e16, e17, e18, e19, e20, e21, e22, e23, e24, e25, e26, e27, e28, e29, e30, e31, e32, e33, e34, e35, e36, e37, e38, e39, e40, e41, e42, e43, e44, e45, e46, e47, e48, e49, e50, e51, e52, e53, e54, e55, e56, e57, e58, e59, e60, e61, e62, e63, e64, e65, e66, e67, e68, e69, e70, e71, e72, e73, e74, e75, e76, e77, e78, e79, e80, e81, e82, e83, e84, e85, e86, e87, e88, e89, e90, e91, e92, e93] at ha
          rw [ha]
          clear ha hF hI e0 e1 e2 e3 e4 e5 e6 e7 e8 e9 e10 e11 e12 e13 e14 e15 e16 e17 e18 e19 e20 e21 e22 e23 e24 e25 e26 e27 e28 e29 e30 e31 e32 e33 e34 e35 e36 e37 e38 e39 e40 e41 e42 e43 e44 e45 e46 e47 e48 e49 e50 e51 e52 e53 e54 e55 e56 e57 e58 e59 e60 e61 e62 e63 e64 e65 e66 e67 e68 e69 e70 e71 e72 e73 e74 e75 e76 e77 e78 e79 e80 e81 e82 e83 e84 e85 e86 e87 e88 e89 e90 e91 e92 e93
          have HE8 : Hid (Ex wr.heap.size none wr w') := Lib.hid hR
          obtain ⟨w8, hw8⟩ : ∃ w8 : World, w8 = w' := ⟨_, rfl⟩
          rw [← hw8] at HE8 hc1 hc2 hc3 ⊢
          have HB8 : Hid (BoxR b1 x w8 ∧ BoxR b2 x w8 ∧ BoxR b3 x w8) := Lib.hid ⟨.of hc1, .of hc2, .of hc3⟩
          clear hw8 hc1 hc2 hc3 hR
          refine wpList_done (P := Tryz.prog) (ops := #[]) ?_
          have HX8 : Hid (Ex w3.heap.size none w3 w8) := Lib.hid (HEX.out.thenW HE8.out)
          go_upto_region 9 with (fail)
          obtain ⟨q1, q2⟩ := (HB8.out.1.keep (w' := w8.drew) rfl).put1 x.2.2
          obtain ⟨w9a, hw9a⟩ : ∃ w9a : World, w9a = w8.drew.setCells b1 1 (stE x.2.2) := ⟨_, rfl⟩
          rw [← hw9a] at q1 q2
          obtain ⟨q3, q4⟩ := q2.put2 x.2.1
          obtain ⟨w9, hw9⟩ : ∃ w9 : World, w9 = w9a.setCells b1 14 (stE x.2.1) := ⟨_, rfl⟩
          rw [← hw9] at q3 q4
          have HE9A : Hid (Ex wr.heap.size none wr w9a) := Lib.hid (by rw [hw9a]; exact (Ex.drew HE8.out).setCells _ _ _ hb1)
          have HE9 : Hid (Ex wr.heap.size none wr w9) := Lib.hid (by rw [hw9]; exact HE9A.out.setCells _ _ _ hb1)
          have HB9 : Hid (BoxR b1 (x.1, x.2.2, x.2.1) w9 ∧ BoxR b2 x w9 ∧ BoxR b3 x w9) := Lib.hid (by
            refine ⟨q4, ?_, ?_⟩
            · rw [hw9, hw9a]; exact ((HB8.out.2.1.keep (w' := w8.drew) rfl).other (Ne.symm hn12) _ _).other (Ne.symm hn12) _ _
            · rw [hw9, hw9a]; exact ((HB8.out.2.2.keep (w' := w8.drew) rfl).other (Ne.symm hn13) _ _).other (Ne.symm hn13) _ _)
          clear hw9 hw9a q2 q4
          have HX9A : Hid (Ex w3.heap.size none w3 w9a) := Lib.hid (HEX.out.thenW HE9A.out)
          have HX9 : Hid (Ex w3.heap.size none w3 w9) := Lib.hid (HEX.out.thenW HE9.out)
          go_region_held3 (fun w' => (rowLoad 35 ⟨pb, off + k * 27 + 1, none⟩).run Tryz.prog w' = .ok (stV x.2.1) w' ∧ (rowLoad 35 ⟨pb, off + k * 27 + 14, none⟩).run Tryz.prog w' = .ok (stV x.2.2) w') (exact (HPL.out _ (by repeat (first | with_reducible exact HX9.out | with_reducible exact HX9A.out | with_reducible exact HX8.out | with_reducible refine Ex.drew ?_)))) (fail)
          clear q1 q3
          obtain ⟨lp, l1, l2, c2⟩ := HPX.out w9 HX9.out
          obtain ⟨q1, q2⟩ := HB9.out.2.1.put2 x.2.1
          obtain ⟨w10, hw10⟩ : ∃ w10 : World, w10 = w9.setCells b2 14 (stE x.2.1) := ⟨_, rfl⟩
          rw [← hw10] at q1 q2
          have HE10 : Hid (Ex wr.heap.size none wr w10) := Lib.hid (by rw [hw10]; exact HE9.out.setCells _ _ _ hb2)
          have HB10 : Hid (BoxR b1 (x.1, x.2.2, x.2.1) w10 ∧ BoxR b2 (x.1, x.2.1, x.2.1) w10 ∧ BoxR b3 x w10) := Lib.hid (by
            refine ⟨?_, q2, ?_⟩
            · rw [hw10]; exact HB9.out.1.other hn12 _ _
            · rw [hw10]; exact HB9.out.2.2.other (Ne.symm hn23) _ _)
          clear hw10 q2
          have HX10 : Hid (Ex w3.heap.size none w3 w10) := Lib.hid (HEX.out.thenW HE10.out)
          go_upto_region 11 with (fail)
          clear lp l1 l2 c2 q1
          obtain ⟨lp, l1, l2, c2⟩ := HPX.out w10 HX10.out
          obtain ⟨au, hau⟩ : ∃ au, au = x.2.2.1.author := ⟨_, rfl⟩
          rw [← hau] at c2
          have hab : 0 ≤ au ∧ au < 64 := by rw [hau]; exact author_bd HP.out.1.2.1
          obtain ⟨ha1, ha2⟩ := hab
          have HAU := Lib.hid hau
          clear hau
          have hr1 : 0 ≤ f.tmod 60 ∧ f.tmod 60 < 60 := by rw [Int.tmod_eq_emod_of_nonneg hf1]; omega
          obtain ⟨hr1, hr2⟩ := hr1
          have hwf : IntKind.i64.wrap f = f := by rw [IntKind.wrap_i64]; omega
          have hw1 : IntKind.i64.wrap (au + 1) = au + 1 := by rw [IntKind.wrap_i64]; omega
          have hw2 : IntKind.i64.wrap (f.tmod 60) = f.tmod 60 := by rw [IntKind.wrap_i64]; omega
          have hw3 : IntKind.i64.wrap (au + 1 + f.tmod 60) = au + 1 + f.tmod 60 := by rw [IntKind.wrap_i64]; omega
          have hw4 : IntKind.i64.wrap ((au + 1 + f.tmod 60).tmod 64) = (au + 1 + f.tmod 60).tmod 64 := by rw [Int.tmod_eq_emod_of_nonneg (by omega), IntKind.wrap_i64]; omega
          obtain ⟨c25, f25⟩ := HB10.out.2.2.cell 25 (by decide)
          replace c25 : w10.cell? ⟨b3, 25, none⟩ = some (.int .i64 x.2.2.1.key) := c25
          go_upto_region 12 with (fail)
          obtain ⟨kv, hkv⟩ : ∃ kv : Int, kv = (au + 1 + f % 60) % 64 := ⟨_, rfl⟩
          have HKV : Hid (kv ≠ x.d.2.2.author) := Lib.hid (by
            show kv ≠ x.2.2.1.author
            rw [← HAU.out, hkv]
            omega)
          rw [← hkv]
          clear hkv hw1 hw2 hw3 hw4 hwf hr1 hr2 c25 f25 c2 l1 l2 lp
          obtain ⟨w11, hw11⟩ : ∃ w11 : World, w11 = w10.setCell ⟨b3, 25, none⟩ (.int .i64 kv) := ⟨_, rfl⟩
          have HE11 : Hid (Ex wr.heap.size none wr w11) := Lib.hid (by rw [hw11]; exact HE10.out.setCells b3 25 [.int .i64 kv] hb3)
          have HB11 : Hid (BoxR b1 (x.1, x.2.2, x.2.1) w11 ∧ BoxR b2 (x.1, x.2.1, x.2.1) w11 ∧ BoxR b3 (x.1, x.2.1, (keyS x.2.2.1 kv, x.2.2.2)) w11) := Lib.hid (by
            rw [hw11]
            exact ⟨HB10.out.1.other hn13 25 [.int .i64 kv], HB10.out.2.1.other hn23 25 [.int .i64 kv], HB10.out.2.2.putK kv⟩)
          rw [← hw11]
          clear hw11
          have HX11 : Hid (Ex w3.heap.size none w3 w11) := Lib.hid (HEX.out.thenW HE11.out)
          have HBX : Hid (∀ W, Ex w11.heap.size none w11 W → (rowLoad 37 ⟨b1, 0, none⟩).run Tryz.prog W = .ok (prV (x.1, x.2.2, x.2.1)) W ∧ (rowLoad 37 ⟨b2, 0, none⟩).run Tryz.prog W = .ok (prV (x.1, x.2.1, x.2.1)) W ∧ (rowLoad 37 ⟨b3, 0, none⟩).run Tryz.prog W = .ok (prV (x.1, x.2.1, (keyS x.2.2.1 kv, x.2.2.2))) W) := Lib.hid (fun W h => ⟨(HB11.out.1.keep (h.block _ HB11.out.1.lt (by simp))).load, (HB11.out.2.1.keep (h.block _ HB11.out.2.1.lt (by simp))).load, (HB11.out.2.2.keep (h.block _ HB11.out.2.2.lt (by simp))).load⟩)
          obtain ⟨kn, hkn, hknr⟩ : ∃ kn : Nat, x.1 = ((kn : Nat) : Int) ∧ (kn = 1 ∨ kn = 2 ∨ kn = 3) := by
            rcases HP.out.1.2.2.2.2.2 with ⟨h, _⟩ | ⟨h, _⟩
            · exact ⟨1, h, .inl rfl⟩
            · exact ⟨2, h, .inr (.inl rfl)⟩
          have HKN := Lib.hid hkn
          clear hkn
          obtain ⟨r1, r2, r3⟩ := HBX.out w11 (Ex.refl _ _ _)
          go_upto_region 14 with (first
            | (go_at_call 10
               fail_if_success (have _x := HE12)
               refine (checkX_any (P := fun _ => True) (x.1, x.2.2, x.2.1) kn w11 ⟨(HLX.out w11 HX11.out).2, (HLX.out w11 HX11.out).1⟩ HP.out.2.2 HP.out.2.1 HP.out.1.2.1 HP.out.1.1 HP.out.1.2.2.2.2.1.symm HKN.out hknr).mono ?_
               rw [show chkX (PrX.d (x.1, x.2.2, x.2.1)) = 48 from HP.out.1.swap]
               rintro e w12 ⟨rfl, hex⟩
               have HE12 : Hid (Ex w11.heap.size none w11 w12) := Lib.hid (hex)
               have HX12 : Hid (Ex w3.heap.size none w3 w12) := Lib.hid (HX11.out.thenW hex)
               clear r1 r2 r3
               obtain ⟨r1, r2, r3⟩ := HBX.out w12 HE12.out
               clear hex)
            | (go_at_call 10
               fail_if_success (have _x := HE13)
               refine (checkX_any (P := fun _ => True) (x.1, x.2.1, x.2.1) kn w12 ⟨(HLX.out w12 HX12.out).1, (HLX.out w12 HX12.out).1⟩ HP.out.2.1 HP.out.2.1 HP.out.1.1 HP.out.1.1 rfl HKN.out hknr).mono ?_
               rw [show chkX (PrX.d (x.1, x.2.1, x.2.1)) = 48 from HP.out.1.same]
               rintro e w13 ⟨rfl, hex⟩
               have HE13 : Hid (Ex w11.heap.size none w11 w13) := Lib.hid (HE12.out.thenW hex)
               have HX13 : Hid (Ex w3.heap.size none w3 w13) := Lib.hid (HX12.out.thenW hex)
               clear r1 r2 r3
               obtain ⟨r1, r2, r3⟩ := HBX.out w13 HE13.out
               clear hex)
            | (go_at_call 10
               fail_if_success (have _x := HE14)
               refine (checkX_any (P := fun _ => True) (x.1, x.2.1, (keyS x.2.2.1 kv, x.2.2.2)) kn w13 ⟨(HLX.out w13 HX13.out).1, (HLX.out w13 HX13.out).2⟩ HP.out.2.1 HP.out.2.2 HP.out.1.1 HP.out.1.2.1 HP.out.1.2.2.2.2.1 HKN.out hknr).mono ?_
               rw [show chkX (PrX.d (x.1, x.2.1, (keyS x.2.2.1 kv, x.2.2.2))) = 6 from PairOK.key HKV.out]
               rintro e w14 ⟨rfl, hex⟩
               have HE14 : Hid (Ex w11.heap.size none w11 w14) := Lib.hid (HE13.out.thenW hex)
               have HX14 : Hid (Ex w3.heap.size none w3 w14) := Lib.hid (HX13.out.thenW hex)
               clear hex)
            | fail)
          clear r1 r2 r3
          obtain ⟨lp, l1, l2, c2⟩ := HPX.out w14 HX14.out
          have n0 := prV_new w14 #[.int .i64 0, .int .i64 0, .int .i64 0, .string ⟨#[]⟩, .int .i64 0, .int .i64 0, .int .i64 0, .int .i64 0, .int .i64 0, .slice none 0 0, .slice none 0 0, .string ⟨#[]⟩, .int .i64 0, .string ⟨#[]⟩, .int .i64 0, .int .i64 0, .string ⟨#[]⟩, .int .i64 0, .int .i64 0, .int .i64 0, .int .i64 0, .int .i64 0, .slice none 0 0, .slice none 0 0, .string ⟨#[]⟩, .int .i64 0, .string ⟨#[]⟩] x rfl
          obtain ⟨w15, hw15⟩ : ∃ w15 : World, w15 = w14.alloc (.cells (prE x).toArray 37) := ⟨_, rfl⟩
          rw [← hw15] at n0
          have HB15 : Hid (BoxR w14.heap.size x w15) := Lib.hid (.of (by rw [hw15]; exact heap_alloc_new _ _))
          have HX15 : Hid (Ex w3.heap.size none w3 w15) := Lib.hid (by rw [hw15]; exact HX14.out.allocX _)
          clear hw15
          go_upto_region 15 with (fail)
          clear n0 lp l1 l2 c2
          obtain ⟨c0, f0⟩ := HB15.out.cell 0 (by decide)
          replace c0 : w15.cell? ⟨w14.heap.size, 0, none⟩ = some (.int .i64 x.1) := c0
          go_upto_region 16 with (fail)
          clear c0 f0
          obtain ⟨w16, hw16⟩ : ∃ w16 : World, w16 = w15.setCell ⟨w14.heap.size, 0, none⟩ (.int .i64 3) := ⟨_, rfl⟩
          have r4 : (rowLoad 37 ⟨w14.heap.size, 0, none⟩).run Tryz.prog w16 = .ok (prV ((3 : Int), x.2.1, x.2.2)) w16 := by rw [hw16]; exact (HB15.out.putN 3).load
          have HX16 : Hid (Ex w3.heap.size none w3 w16) := Lib.hid (by rw [hw16]; exact HX15.out.setCells w14.heap.size 0 [.int .i64 3] (by have := HX14.out.size; omega))
          rw [← hw16]
          clear hw16
          go_wp2_with (first
            | (go_at_call 10
               refine (checkX_any (P := fun _ => True) ((3 : Int), x.2.1, x.2.2) 3 w16 (HLX.out w16 HX16.out) HP.out.2.1 HP.out.2.2 HP.out.1.1 HP.out.1.2.1 HP.out.1.2.2.2.2.1 rfl (.inr (.inr rfl))).mono ?_
               rw [show chkX (PrX.d ((3 : Int), x.2.1, x.2.2)) = 48 from HP.out.1.three]
               rintro e w17 ⟨rfl, hex⟩
               have HX17 : Hid (Ex w3.heap.size none w3 w17) := Lib.hid (HX16.out.thenW hex)
               clear hex)
            | fail)
          go_roundw
          case rel => exact ⟨k + 1, by omega, by go_num, HX17.out⟩
          case measure => simp [intOf] <;> omega
      · have hltI : ¬ (k : Int) < (n : Int) := by omega
        go_wp2_with (first
          | (go_at_call 6
             refine (awake36_any wr).mono ?_
             rintro e w4 ⟨rfl, hex4⟩
             have HE4 : Hid (Ex w.heap.size none w w4) := Lib.hid ((HE3.out.thenW HEX.out).thenW hex4)
             clear hex4)
          | fail)
        go_ret
        exact ⟨rfl, HE4.out.below⟩
  · have hmI : ¬ (L.length : Int) ≤ 400 := by omega
    have hmd : decide ((L.length : Int) ≤ 400) = false := decide_eq_false hmI
    go_enter Tryz.func3, Tryz.ntmps3
    go_wp2_with (first
      | (go_at_call 5; refine (light_any _ _ _ _).mono ?_; rintro e w' ⟨rfl, rfl⟩)
      | (go_at_call 6; refine (awake36_any _).mono ?_; rintro e w1 ⟨rfl, hex⟩))
    go_ret
    exact ⟨rfl, hex.below⟩
end Go.Proofs.YtaihmldiglgipaaGreat

/- The walk of MourningMajority. No statement of the seat. -/
import Derived.Test.YtdgfankkapeclaaGreatHeirsPG
import Derived.Test.YtdgfankkapeclaaGreatMajorPlainG
import Derived.Test.YtdgfankkapeclaaGreatMillGG
import Derived.Test.YtdgfankkapeclaaGreatDraft34G
import Derived.Test.YtdgfankkapeclaaGreatVoicesXG
import Derived.Test.YtdgfankkapeclaaGreatMg03
import Derived.Test.YtdgfankkapeclaaGreatMg13
import Derived.Test.YtdgfankkapeclaaGreatDiceWG
import Derived.Test.YtdgfankkapeclaaGreatMg05
import Derived.Test.YtdgfankkapeclaaGreatMg01
import Derived.Test.YtdgfankkapeclaaGreatMg04
namespace Go.Proofs.YtdgfankkapeclaaGreat
open Go.RowKit Go.Maps Go.Sort

theorem bdsM_u8 {a : Int} (h : (Lit.int .u8 a).wf = true) : 0 ≤ a ∧ a ≤ 255 := by
  simp [Lit.wf, IntKind.min, IntKind.max, IntKind.signed, IntKind.bits] at h
  omega
/-- The first guardians. -/
def gsM (m : Nat) : List Int := [1, 2, 3, 4, 5].take m
theorem gsM_len {m : Nat} (h : m ≤ 5) : (gsM m).length = m := by unfold gsM; rw [List.length_take]; simp; omega
theorem gsM_valid {m : Nat} (h1 : 1 ≤ m) (h2 : m ≤ 5) : validG 0 ((m / 2 : Nat) + 1 : Int) (gsM m) = true := by
  obtain rfl | rfl | rfl | rfl | rfl : m = 1 ∨ m = 2 ∨ m = 3 ∨ m = 4 ∨ m = 5 := by omega
  all_goals decide
theorem gsM_low {m : Nat} {x : Int} (h : x ∈ gsM m) : x ≤ 5 := by
  have := List.mem_of_mem_take h
  simp at this
  omega
theorem gsM_sl {w : World} {g m : Nat} (h : w.heap[g]? = some (.cells #[.int .i64 1, .int .i64 2, .int .i64 3, .int .i64 4, .int .i64 5] 3 (0, 0))) (hm : m ≤ 5) : Sl intRep (fun b => b = g) w (.slice (some ⟨g, 0, none⟩) m 5) (gsM m) := by
  refine ⟨_, 5, by rw [gsM_len hm], fun i hi => ⟨g, 0, [.int .i64 (gsM m)[i]], rfl, rfl, fun j v hj => ?_, rfl⟩⟩
  have hi5 : i < 5 := by rw [gsM_len hm] at hi; omega
  have e : (gsM m)[i] = (i : Int) + 1 := by
    have him : i < m := by rw [gsM_len hm] at hi; exact hi
    have h1 : (gsM m)[i]? = some ((i : Int) + 1) := by
      unfold gsM
      rw [List.getElem?_take_of_lt him]
      obtain rfl | rfl | rfl | rfl | rfl : i = 0 ∨ i = 1 ∨ i = 2 ∨ i = 3 ∨ i = 4 := by omega
      all_goals rfl
    rw [List.getElem?_eq_getElem hi] at h1
    simpa using h1
  rw [e] at hj
  have hj0 : j = 0 := by have := (List.getElem?_eq_some_iff.1 hj).1; simpa using this
  subst hj0
  simp only [List.getElem?_cons_zero, Option.some.injEq] at hj
  subst hj
  rw [cell_of_row _ _ _ _ _ _ h]
  obtain rfl | rfl | rfl | rfl | rfl : i = 0 ∨ i = 1 ∨ i = 2 ∨ i = 3 ∨ i = 4 := by omega
  all_goals rfl
theorem guard_made {s : St} (ha : 0 ≤ s.author ∧ s.author ≤ 63) (hn : 0 ≤ s.number ∧ s.number ≤ 199) (ht : s.time = 0) (hk : s.kind = 12) (hb : s.b = 0) (hc : s.c = 0) (hp : s.pins = []) (hbo : s.body = ⟨#[]⟩) (hpr : (s.number = 0 ∧ s.prev = ⟨#[]⟩) ∨ (0 < s.number ∧ s.prev.size = 32)) (hs : sealedB s = true) (hv : validG s.author s.a s.list = true) : guardB s = true := by
  have hv' := hv
  unfold validG at hv'
  simp only [Bool.and_eq_true, decide_eq_true_eq] at hv'
  obtain ⟨⟨⟨⟨⟨⟨_, _⟩, hl12⟩, hvi⟩, _⟩, hn1⟩, hn2⟩ := hv'
  have hkeys : ∀ x ∈ s.list, 0 ≤ x ∧ x < 64 := fun x hx => by
    obtain ⟨i, hi, rfl⟩ := List.getElem_of_mem hx
    unfold validI okTo at hvi
    simp only [Bool.and_eq_true, List.all_eq_true] at hvi
    have := hvi.2 i (by simpa using hi)
    unfold okAt at this
    simp only [Bool.and_eq_true, Bool.or_eq_true, decide_eq_true_eq] at this
    have h1 := this.1
    simp [List.getD, hi] at h1
    exact h1
  have hc0 : checkI s = 0 := by
    unfold checkI
    rw [if_neg (by simp [keyB]; omega), if_neg (by omega), if_neg (by rw [ht]; simp [inB]), if_neg ?_, if_neg (by rw [hp, hbo, show (⟨#[]⟩ : ByteArray).size = 0 from rfl]; simp; omega), if_neg ?_, if_neg (by omega)]
    · rintro (⟨h1, h2⟩ | ⟨h1, h2⟩ | h)
      · rcases hpr with h | h
        · exact h2 h.2
        · omega
      · rcases hpr with h | h
        · omega
        · exact h2 h.2
      · rw [hp] at h; simp [pinsB, pinsTo] at h
    · have : numB s = true := by
        unfold numB kindB inB M40
        rw [hk, hb, hc]
        simp only [Bool.and_eq_true, decide_eq_true_eq, List.all_eq_true]
        refine ⟨⟨⟨⟨⟨?_, ?_⟩, ?_⟩, ?_⟩, fun x hx => ?_⟩, ?_⟩
        all_goals first | omega | (have := hkeys x hx; omega) | simp
      rw [this]; simp
  unfold guardB
  rw [hc0, hs, hk, hb, hc, hp, hbo, hv]
  rfl
theorem own_heirs_sl {w : World} {base : Nat} {ao : Option Addr} {cap n : Nat} {xs : List (Int × Int)} (h : OwnE encH 2 34 w base ao cap xs) (hn : xs.length = n) : Sl heirRep (fun b => base ≤ b) w (.slice ao n cap) xs := by
  subst hn
  refine ⟨ao, cap, rfl, ?_⟩
  rcases h.cases with ⟨rfl, _, rfl⟩ | ⟨g, rfl, hb, _, _⟩
  · exact SlAt.nil _ _ _
  · exact sl_holdsK hb (h.holds (show ∀ x : Int × Int, (encH x).length = 2 from fun _ => rfl))
theorem ownT_empty (w : World) (base : Nat) (_hb : base ≤ w.heap.size) {g : Nat} (hg : g = w.heap.size) : OwnT (w.alloc (.cells #[] 53)) w.heap.size base (some ⟨g, 0, none⟩) 0 [] := by
  subst hg
  exact ⟨[], rfl, World.ownsRow_lit w #[] 0 (Nat.le_refl _) (by decide) rfl, fun x hx => by cases hx⟩
/-- The statements behind the first one. -/
def MLoss (s : St) : Prop := s.kind = 13 ∧ s.a = 0 ∧ 6 ≤ s.b ∧ s.b ≤ 8 ∧ Tame s
theorem votes_range {s0 : St} {ls : List St} (h0 : s0.kind = 12) (h : ∀ s ∈ ls, MLoss s) : ∀ p ∈ votesG (s0 :: ls), p.2.1 = 0 → p.2.2 < 12 := fun p hp _ => by
  obtain ⟨s, hs, hl, rfl⟩ := votesG_mem hp
  rcases List.mem_cons.1 hs with rfl | hs
  · have := (lossB_parts hl).1; omega
  · have := (h s hs).2.2.2.1
    show s.b < 12
    omega
theorem votesG_snoc (l : List St) (s : St) : votesG (l ++ [s]) = votesG l ++ if lossB s = true then [(s.author, s.a, s.b)] else [] := by
  unfold votesG
  rw [List.filter_append, List.map_append]
  by_cases h : lossB s = true <;> simp [h, voteG]
theorem heirs_more {l : List St} {s : St} {g : GuardD} (hv : validG g.1 g.2.1 g.2.2 = true) (h : ∀ x ∈ g.2.2, x ≠ s.author) : heirsP (votesG (l ++ [s])) [g] = heirsP (votesG l) [g] := by
  rw [votesG_snoc]
  split
  · exact heirs_outsider hv h
  · rw [List.append_nil]
theorem ownS_lit {w : World} {base g : Nat} (s : St) (la : Option Addr) (na ca : Nat) (pa : Option Addr) (np cp : Nat) (hg : g = w.heap.size) (hb : base ≤ w.heap.size) (hl : Lies (fun b => base ≤ b) w (s, ⟨la, na, ca⟩, ⟨pa, np, cp⟩)) : OwnS (w.alloc (.cells (stE (s, ⟨la, na, ca⟩, ⟨pa, np, cp⟩)).toArray 53)) base (some ⟨g, 0, none⟩) 1 [s] := by
  subst hg
  refine ⟨[(s, ⟨la, na, ca⟩, ⟨pa, np, cp⟩)], rfl, by unfold OwnE; have := World.ownsRow_lit (base := base) (e := 53) (size := 13) w (stE (s, ⟨la, na, ca⟩, ⟨pa, np, cp⟩)).toArray 1 hb (by decide) (by simp [stE]); simpa [flatL] using this, fun y hy => ?_⟩
  rw [List.mem_singleton.1 hy]
  exact (hl.mono (P' := fun b => base ≤ b ∧ b < w.heap.size) fun b h hb => ⟨h, hb⟩).keep (fun b h _ => (Ex.new w _).block b h.2 (by simp)) |>.mono fun b h _ => ⟨h.1, by simp [rowOf]; omega⟩

set_option maxHeartbeats 16000000 in
set_option maxRecDepth 100000 in
theorem mourningMajority_walk (v : Value) (L : List Int) (x : Int) (w : World) (hv : Ints w v L) (hm0 : L.length ≤ 9223372036854775807) (hx0 : 0 ≤ x ∧ x ≤ 255) :
    Calls Tryz.prog 4 #[v, .int .u8 x] w fun e w' => e = .returned (.bool true) ∧ Below w.heap.size w w' := by
  obtain ⟨ao, cap, rfl, hx⟩ := hv
  have HX := Lib.hid hx
  clear hx
  by_cases hm : L.length ≤ 400
  · have hmI : (L.length : Int) ≤ 400 := by omega
    go_enter Tryz.func4, Tryz.ntmps4
    go_upto_region 5 with (first
      | (go_at_call 10; refine (light_any _ _ _ _).mono ?_; rintro e w' ⟨rfl, rfl⟩)
      | (go_at_call 12
         refine (roll_any (.slice ao L.length cap) L w ⟨ao, cap, rfl, HX.out⟩ (by omega)).mono ?_
         rintro e w1 ⟨p, rfl, hd, hp1, hp2, hex⟩
         have HD1 : Hid (DiceOK (p + 1) w1 p ∧ Ex w.heap.size none w w1) := Lib.hid ⟨⟨_, hd⟩, hex⟩
         have hz1 : w.heap.size ≤ w1.heap.size := hex.size
         clear hd hex)
      | (go_at_call 22
         refine (next_w (p + 1) p 5 _ (HD1.out.1.keep (Ex.new w1 _) hp2) (by omega) (by omega)).mono ?_
         rintro e w2 ⟨k1, rfl, hk1, hd, hex⟩
         obtain ⟨m, hm1⟩ : ∃ m : Nat, m = 1 + k1 := ⟨_, rfl⟩
         have hw7 : IntKind.i64.wrap (1 + (k1 : Int)) = (m : Int) := by rw [IntWalk.i64_in _ (by omega)]; omega
         have hm5 : (m : Int) ≤ 5 := by omega
         have hm0' : (0 : Int) ≤ (m : Int) := by omega
         have hz2 : w1.heap.size < w2.heap.size := by have := hex.size; simp at this; omega
         have HD2 : Hid (DiceOK (p + 1) w2 p ∧ Ex w.heap.size none w w2) := Lib.hid ⟨hd, (HD1.out.2.trans (Ex.new w1 _) hz1 (by simp)).trans hex (by simp; omega) (fun q e hq => by cases e; omega)⟩
         have HR2 : Hid (w2.heap[w1.heap.size]? = some (.cells #[.int .i64 1, .int .i64 2, .int .i64 3, .int .i64 4, .int .i64 5] 3 (0, 0))) := Lib.hid ((hex.block _ (by simp) (fun e => by cases e; omega)).trans (heap_alloc_new w1 _))
         have HM1 := Lib.hid hm1
         clear hd hex hm1)
      | fail)
    go_upto_region 6 with (fail)
    have HV0 : Hid (validG 0 ((m : Int) / 2 + 1) (gsM m) = true) := Lib.hid (by have := gsM_valid (m := m) (by have := HM1.out; omega) (by omega); simpa using this)
    obtain ⟨w3, hw3⟩ : ∃ w3 : World, w3 = w2.alloc (.cells #[.int .i64 0, .int .i64 ((m : Int) / 2 + 1), .slice (some ⟨w1.heap.size, 0, none⟩) m 5] 36) := ⟨_, rfl⟩
    have hz3 : w3.heap.size = w2.heap.size + 1 := by rw [hw3]; simp
    have HD3 : Hid (DiceOK (p + 1) w3 p ∧ Ex w.heap.size none w w3) := Lib.hid (by rw [hw3]; exact ⟨HD2.out.1.keep (Ex.new w2 _) (by omega), HD2.out.2.alloc (by omega) _⟩)
    have HGB : Hid (∀ q w', Ex w3.heap.size (some q) w3 w' → q = p → w'.cell? ⟨w2.heap.size, 0, none⟩ = some (.int .i64 0) ∧ w'.cell? ⟨w2.heap.size, 1, none⟩ = some (.int .i64 ((m : Int) / 2 + 1)) ∧ w'.cell? ⟨w2.heap.size, 2, none⟩ = some (.slice (some ⟨w1.heap.size, 0, none⟩) m 5) ∧ Sl intRep (fun b => b = w1.heap.size) w' (.slice (some ⟨w1.heap.size, 0, none⟩) m 5) (gsM m)) := Lib.hid (fun q w' h hq => by
      subst hq
      have k : w'.heap[w2.heap.size]? = some (.cells #[.int .i64 0, .int .i64 ((m : Int) / 2 + 1), .slice (some ⟨w1.heap.size, 0, none⟩) m 5] 36 (0, 0)) := (h.block _ (by omega) (fun e => by cases e; omega)).trans (by rw [hw3]; exact heap_alloc_new _ _)
      refine ⟨?_, ?_, ?_, ?_⟩
      · rw [cell_of_row _ _ _ _ _ _ k]; rfl
      · rw [cell_of_row _ _ _ _ _ _ k]; rfl
      · rw [cell_of_row _ _ _ _ _ _ k]; rfl
      · exact gsM_sl ((h.block _ (by omega) (fun e => by cases e; omega)).trans (by rw [hw3]; exact (at_old _ _ _ hz2).trans HR2.out)) (by omega))
    rw [← hw3]
    clear hw3
    obtain ⟨g0, g1, g2, _⟩ := HGB.out p _ (Ex.refl _ _ w3) rfl
    go_upto_region 7 with (first
      | (go_at_call 23
         refine (draft34_yes 0 ((m : Int) / 2 + 1) (some ⟨w1.heap.size, 0, none⟩) m 5 (gsM m) _ (HGB.out p _ (Ex.refl _ _ w3) rfl).2.2.2 (by rw [gsM_len (by omega)]; omega) HV0.out).mono ?_
         rintro e w4 ⟨la, lc, rfl, hsl, hex⟩
         have HSL4 := Lib.hid hsl
         have HE4 := Lib.hid hex
         have hz4 : w3.heap.size ≤ w4.heap.size := hex.size
         clear hsl hex g0 g1 g2)
      | fail)
    obtain ⟨w5, hw5⟩ : ∃ w5 : World, w5 = w4.alloc (.cells #[.int .i64 12, .int .i64 ((m : Int) / 2 + 1), .int .i64 0, .int .i64 0, .slice la m lc, .slice none 0 0] 46) := ⟨_, rfl⟩
    have hz5 : w5.heap.size = w4.heap.size + 1 := by rw [hw5]; simp
    have HE5 : Hid (Ex w3.heap.size none w3 w5) := Lib.hid (by rw [hw5]; exact HE4.out.alloc hz4 _)
    have HSL5 : Hid (Sl intRep (fun b => w3.heap.size ≤ b) w5 (.slice la m lc) (gsM m)) := Lib.hid (by rw [hw5]; exact HSL4.out.keep (by decide) fun b _ hb => at_old _ _ _ hb)
    obtain ⟨d0, d1, d2, d3, d4, d5⟩ : w5.cell? ⟨w4.heap.size, 0, none⟩ = some (.int .i64 12) ∧ w5.cell? ⟨w4.heap.size, 1, none⟩ = some (.int .i64 ((m : Int) / 2 + 1)) ∧ w5.cell? ⟨w4.heap.size, 2, none⟩ = some (.int .i64 0) ∧ w5.cell? ⟨w4.heap.size, 3, none⟩ = some (.int .i64 0) ∧ w5.cell? ⟨w4.heap.size, 4, none⟩ = some (.slice la m lc) ∧ w5.cell? ⟨w4.heap.size, 5, none⟩ = some (.slice none 0 0) := by
      have k : w5.heap[w4.heap.size]? = some (.cells #[.int .i64 12, .int .i64 ((m : Int) / 2 + 1), .int .i64 0, .int .i64 0, .slice la m lc, .slice none 0 0] 46 (0, 0)) := by rw [hw5]; exact heap_alloc_new _ _
      refine ⟨?_, ?_, ?_, ?_, ?_, ?_⟩ <;> (rw [cell_of_row _ _ _ _ _ _ k]; rfl)
    rw [← hw5]
    clear hw5
    go_upto_region 8 with (first
      | (go_at_call 24
         refine (millList_any 0 0 0 ((m : Int) / 2 + 1) la m lc (gsM m) _ HSL5.out (by rw [gsM_len (by omega)]; have := HM1.out; omega) (by rw [gsM_len (by omega)]; omega) (by omega)).mono ?_
         rintro e w6 ⟨s0, sla, sna, sca, spa, snp, scp, rfl, hs, hl, hex⟩
         have HS0 := Lib.hid hs
         have HLS0 := Lib.hid hl
         have HE6 : Hid (Ex w3.heap.size none w3 w6) := Lib.hid (HE5.out.trans hex (by omega) (by simp))
         have hz6 : w5.heap.size ≤ w6.heap.size := hex.size
         clear hs hl hex d0 d1 d2 d3 d4 d5)
      | fail)
    obtain ⟨w7, hw7⟩ : ∃ w7 : World, w7 = w6.alloc (.cells #[.int .i64 s0.author, .int .i64 s0.number, .string s0.prev, .int .i64 s0.time, .int .i64 s0.kind, .int .i64 s0.a, .int .i64 s0.b, .int .i64 s0.c, .slice sla sna sca, .slice spa snp scp, .string s0.body, .int .i64 s0.key, .string s0.dig] 53) := ⟨_, rfl⟩
    have HO7 : Hid (OwnS w7 w5.heap.size (some ⟨w6.heap.size, 0, none⟩) 1 [s0]) := Lib.hid (by rw [hw7]; exact ownS_lit s0 sla sna sca spa snp scp rfl hz6 HLS0.out)
    have hz7 : w7.heap.size = w6.heap.size + 1 := by rw [hw7]; simp
    have HE7 : Hid (Ex w3.heap.size none w3 w7) := Lib.hid (by rw [hw7]; exact HE6.out.alloc (by omega) _)
    have HD7 : Hid (DiceOK (p + 1) w7 p) := Lib.hid (HD3.out.1.keep HE7.out (by omega))
    rw [← hw7]
    clear hw7
    have HG0 : Hid (guardB s0 = true ∧ guardS s0 = (0, (m : Int) / 2 + 1, gsM m) ∧ s0.author = 0 ∧ s0.kind = 12 ∧ s0.list = gsM m ∧ s0.pins = []) := Lib.hid (by
      obtain ⟨a1, a2, a3, a4, a5, a6, a7, a8, a9, a10, a11, a12⟩ := HS0.out
      exact ⟨guard_made (by omega) (by omega) a3 a4 a6 a7 a9 a10 a11 a12 (by rw [a1, a5, a8]; exact HV0.out), by unfold guardS; rw [a1, a5, a8], a1, a4, a8, a9⟩)
    go_upto_region 9 with (first
      | (go_at_call 22
         refine (next_w (p + 1) p 12 _ HD7.out (by omega) (by omega)).mono ?_
         rintro e w8 ⟨c8, rfl, hc8, hd, hex⟩
         have HD8 : Hid (DiceOK (p + 1) w8 p) := Lib.hid hd
         have HE8 : Hid (Ex w3.heap.size (some p) w3 w8) := Lib.hid (HE7.out.weaken _ |>.trans hex (by omega) (fun q e _ => by cases e; rfl))
         have HO8 : Hid (OwnS w8 w5.heap.size (some ⟨w6.heap.size, 0, none⟩) 1 [s0]) := Lib.hid (HO7.out.keepP hex (Nat.le_refl _) (fun q e => by cases e; omega))
         have hz8 : w7.heap.size ≤ w8.heap.size := hex.size
         clear hd hex)
      | fail)
    go_loopw [9, 10] (fun v i wr => ∃ (k c : Nat) (ro : Option Addr) (rc : Nat) (ls : List St), i = .int .i64 c ∧ 1 ≤ k ∧ k + c ≤ 13 ∧ v = .slice ro k rc ∧ Hid ((s0 :: ls).length = k) ∧ Hid (OwnS wr w5.heap.size ro rc (s0 :: ls)) ∧ Hid (∀ s ∈ ls, MLoss s) ∧ Hid (DiceOK (p + 1) wr p) ∧ w7.heap.size ≤ wr.heap.size ∧ Ex w3.heap.size (some p) w3 wr) (fun _ i _ => (intOf i).toNat)
    case atStart => exact ⟨1, c8, _, 1, [], rfl, by omega, by omega, rfl, Lib.hid rfl, HO8, Lib.hid (fun _ h => by cases h), HD8, hz8, HE8.out⟩
    case round =>
      clear HO8 HO7 HD8 HD7 HE8 HE7 HLS0 HSL5 HSL4 HE5 HE4 HE6 HD2 HD1 HR2
      obtain ⟨k, c, ro, rc, ls, rfl, hk1', hkc, rfl, HN, HO, HOK, HD, hzr, hex⟩ := hrel
      have HEX := Lib.hid hex
      clear hex
      by_cases hlt : 0 < c
      · have hltI : (0 : Int) < (c : Int) := by omega
        go_upto_region 10 with (first
          | (go_at_call 22
             (fail_if_success (first | have _x := HDa | fail))
             refine (next_w (p + 1) p 5 _ HD.out (by omega) (by omega)).mono ?_
             rintro e wa ⟨ka, rfl, hka, hd, hex⟩
             have HDa : Hid (DiceOK (p + 1) wa p ∧ Ex wr.heap.size (some p) wr wa) := Lib.hid ⟨hd, hex⟩
             have hza : wr.heap.size ≤ wa.heap.size := hex.size
             have hwa : IntKind.i64.wrap (1 + (ka : Int)) = 1 + (ka : Int) := IntWalk.i64_in _ (by omega)
             clear hd hex)
          | (go_at_call 22
             refine (next_w (p + 1) p 3 _ HDa.out.1 (by omega) (by omega)).mono ?_
             rintro e wb ⟨kb, rfl, hkb, hd, hex⟩
             have HDb : Hid (DiceOK (p + 1) wb p ∧ Ex wr.heap.size (some p) wr wb) := Lib.hid ⟨hd, HDa.out.2.trans hex hza (fun q e _ => by cases e; rfl)⟩
             have hzb : wr.heap.size ≤ wb.heap.size := HDb.out.2.size
             have hwb : IntKind.i64.wrap (6 + (kb : Int)) = 6 + (kb : Int) := IntWalk.i64_in _ (by omega)
             clear hd hex)
          | (go_at_call 24
             refine (millLoss_any (1 + (ka : Int)) (k : Int) 0 0 (6 + (kb : Int)) _ (by omega) (by omega) (by omega) (by omega) (by omega) (by omega)).mono ?_
             rintro e wc ⟨s, la', na, ca, pa, np, cp, rfl, hs, hl, hex⟩
             have HS := Lib.hid hs
             have HLS := Lib.hid hl
             have hzc : wb.heap.size ≤ wc.heap.size := hex.size
             have HER : Hid (Ex wr.heap.size (some p) wr wc) := Lib.hid (HDb.out.2.trans hex hzb (by simp))
             have HDc : Hid (DiceOK (p + 1) wc p) := Lib.hid (HDb.out.1.keep hex (by omega))
             have HOc : Hid (OwnS wc w5.heap.size ro rc (s0 :: ls)) := Lib.hid (HO.out.keepP HER.out (Nat.le_refl _) (fun q e => by cases e; omega))
             clear hs hl hex)
          | (at_builtin
             refine wpList_appT rfl (.tmp 47) (.tmp 58) _ (by rfl) Tryz.underlying27 Tryz.infoSt w5.heap.size w5.heap.size ro rc k (s0 :: ls) HN.out (by rfl) (some ⟨wc.heap.size, 0, none⟩) 1 1 (by rfl) [(s, ⟨la', na, ca⟩, ⟨pa, np, cp⟩)] rfl (HOc.out.t.keep (Ex.new wc _) (Nat.le_refl _)) (lit_cells rfl) (fun y hy => by rw [List.mem_singleton.1 hy]; exact (HLS.out.keep fun b _ hb => (Ex.new wc _).block b hb (by simp)).mono fun b h _ => ⟨by omega, fun e => by have := HO.out.t.row b e; omega⟩) (by omega) (by simp; omega) (k + 1) (by omega) ?_
             intro ao3 cap3 wd hod hed hbd hrd
             have HDd : Hid (OwnS wd w5.heap.size ao3 cap3 (s0 :: ls ++ [s]) ∧ Ex w5.heap.size none wc wd) := Lib.hid ⟨hod, ((Ex.new wc _).mono (by omega)).trans hed (Nat.le_refl _) (by simp)⟩
             have hzd : wc.heap.size ≤ wd.heap.size := HDd.out.2.size
             clear hod hed hbd hrd)
          | fail)
        obtain ⟨c', rfl⟩ : ∃ c', c = c' + 1 := ⟨c - 1, by omega⟩
        go_wp2_with (fail)
        go_roundw
        case rel => exact ⟨k + 1, c', ao3, cap3, ls ++ [s], by go_num, by omega, by omega, rfl, Lib.hid (by rw [← List.cons_append, List.length_append, HN.out]; rfl), Lib.hid (by rw [← List.cons_append]; exact HDd.out.1), Lib.hid (fun y hy => by
          rcases List.mem_append.1 hy with hy | hy
          · exact HOK.out y hy
          · rw [List.mem_singleton.1 hy]
            obtain ⟨q1, _, q3, q4, _, q6⟩ := HS.out
            exact ⟨q1.kind, q4, by omega, by omega, q3⟩), Lib.hid (HDc.out.keep HDd.out.2 (by omega)), by omega, (HEX.out.trans HER.out (by omega) (fun q e _ => e)).trans (HDd.out.2.weaken (some p)) (by omega) (fun q e _ => e)⟩
        case measure => simp [intOf] <;> omega
      · have hc0 : ¬ (0 : Int) < (c : Int) := by omega
        have hkm : k ≤ 13 := by omega
        clear hlt
        obtain ⟨w8, hw8⟩ : ∃ w8 : World, w8 = wr := ⟨_, rfl⟩
        subst hw8
        have hsz8 := HEX.out.size
        have HG8 : Hid (∀ w', Ex w8.heap.size none w8 w' → (w'.cell? ⟨w2.heap.size, 0, none⟩ = some (.int .i64 0) ∧ w'.cell? ⟨w2.heap.size, 1, none⟩ = some (.int .i64 ((m : Int) / 2 + 1)) ∧ w'.cell? ⟨w2.heap.size, 2, none⟩ = some (.slice (some ⟨w1.heap.size, 0, none⟩) m 5)) ∧ Sl intRep (fun b => b = w1.heap.size) w' (.slice (some ⟨w1.heap.size, 0, none⟩) m 5) (gsM m)) := Lib.hid (fun w' h => by
          obtain ⟨q1, q2, q3, q4⟩ := HGB.out p w' (HEX.out.trans h hsz8 (by simp)) rfl
          exact ⟨⟨q1, q2, q3⟩, q4⟩)
        have HSL8 : Hid (∀ w', Ex w8.heap.size none w8 w' → Sl stRep (fun _ => True) w' (.slice ro k rc) (s0 :: ls)) := Lib.hid (fun w' h => by
          have q := HO.out.sl
          rw [HN.out] at q
          exact (q.keep (by decide) fun b _ hb => h.block b hb (by simp)).mono (by decide) fun _ _ _ => trivial)
        have HLI : Hid (LightL 9223372036854775807 (s0 :: ls)) := Lib.hid (fun s hs => by
          rcases List.mem_cons.1 hs with rfl | hs
          · obtain ⟨_, _, _, _, q5, q6⟩ := HG0.out
            rw [q5, q6, gsM_len (by omega)]
            exact ⟨by omega, by simp⟩
          · have := (HOK.out s hs).2.2.2.2
            exact ⟨by have := this.list; omega, by have := this.pins; omega⟩)
        obtain ⟨vl, hvl⟩ : ∃ vl, vl = votesG (s0 :: ls) := ⟨_, rfl⟩
        have HVL : Hid (votesG (s0 :: ls) = vl) := Lib.hid hvl.symm
        have HVR : Hid (∀ p ∈ vl, p.2.1 = 0 → p.2.2 < 12) := Lib.hid (by rw [hvl]; exact votes_range HG0.out.2.2.2.1 HOK.out)
        have HMJ : Hid (((gsM m).length : Int) < 2 * ((m : Int) / 2 + 1)) := Lib.hid (by rw [gsM_len (by omega)]; omega)
        have HLEN : Hid ((s0 :: ls).length ≤ 100000) := Lib.hid (by rw [HN.out]; omega)
        clear hvl
        go_wp2_with (fail)
        go_loopw [11, 12] (fun en i wr => ∃ (j q : Nat), i = .int .i64 j ∧ j ≤ 12 ∧ q ≤ j ∧ en = .int .i64 q ∧ Hid (cntE vl (0, (m : Int) / 2 + 1, gsM m) j = q) ∧ Ex w8.heap.size none w8 wr) (fun _ i _ => 12 - (intOf i).toNat)
        case atStart => exact ⟨0, 0, rfl, by omega, by omega, rfl, Lib.hid rfl, Ex.refl _ _ _⟩
        case round =>
          obtain ⟨j, q, rfl, hj, hqj, rfl, HQ, hexi⟩ := hrel
          have hszi := hexi.size
          have HEI := Lib.hid hexi
          clear hexi
          by_cases h12 : j < 12
          · have hjI : (j : Int) < 12 := by omega
            obtain ⟨⟨g0, g1, g2⟩, _⟩ := HG8.out _ HEI.out
            cases henp : enP vl (0, (m : Int) / 2 + 1, gsM m) j with
            | true =>
              have HQ1 : Hid (cntE vl (0, (m : Int) / 2 + 1, gsM m) (j + 1) = q + 1) := Lib.hid (by rw [cntE_succ, henp, HQ.out]; rfl)
              have HEN : Hid (enoughG 0 ((m : Int) / 2 + 1) (gsM m) (voicesL (onLost vl 0) (j : Int) 64) = true) := Lib.hid henp
              clear henp
              go_upto_region 16 with (fail)
              go_region_held3 (fun w' => w'.cell? ⟨w2.heap.size, 0, none⟩ = some (.int .i64 0) ∧ w'.cell? ⟨w2.heap.size, 1, none⟩ = some (.int .i64 ((m : Int) / 2 + 1)) ∧ w'.cell? ⟨w2.heap.size, 2, none⟩ = some (.slice (some ⟨w1.heap.size, 0, none⟩) m 5)) (exact (HG8.out _ (by repeat (first | with_reducible exact HXe.out | with_reducible exact HXv.out | with_reducible exact HEI.out | with_reducible refine Ex.drew ?_))).1)
                (first
                  | (go_at_call 17
                     refine (voicesX_any (.slice ro k rc) (s0 :: ls) 0 (j : Int) _ (HSL8.out _ (by repeat (first | with_reducible exact HEI.out | with_reducible refine Ex.drew ?_))) HLEN.out HLI.out (by omega)).mono ?_
                     rintro e wv ⟨va, vc, vn, rfl, hvn, hown, hex⟩
                     rw [HVL.out] at hvn hown
                     have HXv : Hid (Ex w8.heap.size none w8 wv) := Lib.hid ((HEI.out.drew).trans hex hszi (by simp))
                     have HVN := Lib.hid hvn
                     have HVI := Lib.hid (iE_ints hvn hown)
                     have hzv : wr.heap.size ≤ wv.heap.size := hex.size
                     clear hvn hown hex)
                  | (go_at_call 16
                     refine (asB (refEnough_any 0 ((m : Int) / 2 + 1) (some ⟨w1.heap.size, 0, none⟩) m 5 (gsM m) (.slice va vn vc) _ wv (sl_ints (HG8.out _ HXv.out).2).at' (gsM_len (by omega)) (by omega) HVI.out (by have := voicesL_len (onLost vl 0) (j : Int) 64; omega)) HEN.out).mono ?_
                     rintro e we ⟨rfl, hex⟩
                     have HXe : Hid (Ex w8.heap.size none w8 we) := Lib.hid (HXv.out.trans hex (by omega) (by simp))
                     clear hex)
                  | fail)
              go_wp2_with (fail)
              go_roundw
              case rel => exact ⟨j + 1, q + 1, by go_num, by omega, by omega, by go_num, HQ1, HXe.out⟩
              case measure => simp [intOf] <;> omega
            | false =>
              have HQ1 : Hid (cntE vl (0, (m : Int) / 2 + 1, gsM m) (j + 1) = q) := Lib.hid (by rw [cntE_succ, henp, HQ.out]; simp)
              have HEN : Hid (enoughG 0 ((m : Int) / 2 + 1) (gsM m) (voicesL (onLost vl 0) (j : Int) 64) = false) := Lib.hid henp
              clear henp
              go_upto_region 16 with (fail)
              go_region_held3 (fun w' => w'.cell? ⟨w2.heap.size, 0, none⟩ = some (.int .i64 0) ∧ w'.cell? ⟨w2.heap.size, 1, none⟩ = some (.int .i64 ((m : Int) / 2 + 1)) ∧ w'.cell? ⟨w2.heap.size, 2, none⟩ = some (.slice (some ⟨w1.heap.size, 0, none⟩) m 5)) (exact (HG8.out _ (by repeat (first | with_reducible exact HXe.out | with_reducible exact HXv.out | with_reducible exact HEI.out | with_reducible refine Ex.drew ?_))).1)
                (first
                  | (go_at_call 17
                     refine (voicesX_any (.slice ro k rc) (s0 :: ls) 0 (j : Int) _ (HSL8.out _ (by repeat (first | with_reducible exact HEI.out | with_reducible refine Ex.drew ?_))) HLEN.out HLI.out (by omega)).mono ?_
                     rintro e wv ⟨va, vc, vn, rfl, hvn, hown, hex⟩
                     rw [HVL.out] at hvn hown
                     have HXv : Hid (Ex w8.heap.size none w8 wv) := Lib.hid ((HEI.out.drew).trans hex hszi (by simp))
                     have HVN := Lib.hid hvn
                     have HVI := Lib.hid (iE_ints hvn hown)
                     have hzv : wr.heap.size ≤ wv.heap.size := hex.size
                     clear hvn hown hex)
                  | (go_at_call 16
                     refine (asB (refEnough_any 0 ((m : Int) / 2 + 1) (some ⟨w1.heap.size, 0, none⟩) m 5 (gsM m) (.slice va vn vc) _ wv (sl_ints (HG8.out _ HXv.out).2).at' (gsM_len (by omega)) (by omega) HVI.out (by have := voicesL_len (onLost vl 0) (j : Int) 64; omega)) HEN.out).mono ?_
                     rintro e we ⟨rfl, hex⟩
                     have HXe : Hid (Ex w8.heap.size none w8 we) := Lib.hid (HXv.out.trans hex (by omega) (by simp))
                     clear hex)
                  | fail)
              go_wp2_with (fail)
              go_roundw
              case rel => exact ⟨j + 1, q, by go_num, by omega, by omega, rfl, HQ1, HXe.out⟩
              case measure => simp [intOf] <;> omega
          · have hjI : ¬ (j : Int) < 12 := by omega
            have HJ : Hid (j = 12) := Lib.hid (by omega)
            have HQ12 : Hid (cntE vl (0, (m : Int) / 2 + 1, gsM m) 12 = q) := Lib.hid (by have h := HQ.out; rw [HJ.out] at h; exact h)
            have hq1 : q ≤ 1 := by have := cntE_one (vl := vl) (g := (0, (m : Int) / 2 + 1, gsM m)) HMJ.out 12; rw [HQ12.out] at this; exact this
            have hq1I : (q : Int) ≤ 1 := by omega
            have HGT : Hid (heirsP vl (guardsTo (s0 :: ls) 64) = heirsP vl [(0, (m : Int) / 2 + 1, gsM m)]) := Lib.hid (by
              obtain ⟨a1, a2, a3, a4, _⟩ := HG0.out
              rw [guardsTo_one a1 a3 (fun x hx => by have := (HOK.out x hx).1; omega), a2])
            have HHL : Hid ((heirsP vl [(0, (m : Int) / 2 + 1, gsM m)]).length = q) := Lib.hid (by rw [heirs_count (g := (0, (m : Int) / 2 + 1, gsM m)) HMJ.out HVR.out]; exact HQ12.out)
            obtain ⟨w9, hw9⟩ : ∃ w9 : World, w9 = wr := ⟨_, rfl⟩
            subst hw9
            clear HQ
            obtain ⟨xs, a2, hxs, hlies, hs1, ha2, hs2, hra, hrl⟩ := HO.out.t.parts k (by rw [HN.out]; exact Nat.le_refl _)
            have HXL : Hid (xs.length = k) := (show xs.length = k by rw [← HN.out, ← hxs]; simp)
            have HXS : Hid (xs.map (·.1) = s0 :: ls ∧ (∀ x ∈ xs, Lies (fun b => b < w8.heap.size ∧ w5.heap.size ≤ b) w8 x) ∧ Src w8 ro xs ∧ ∀ b, rowOf ro = some b → b < w8.heap.size) := Lib.hid ⟨hxs, fun x hx => (hlies x hx).mono fun b h hb => ⟨hb, h.1⟩, by rw [List.take_of_length_le (by rw [HXL.out]; exact Nat.le_refl _)] at hs1; exact hs1, hrl⟩
            clear hxs hlies hs1 ha2 hs2 hra hrl
            go_upto_region 19 with (first
              | (go_at_call 15
                 refine (heirsP_any (.slice ro k rc) (s0 :: ls) _ (HSL8.out _ HEI.out) HLEN.out HLI.out).mono ?_
                 rintro e wa ⟨ha, hc, hn, rfl, hhn, hown, hex⟩
                 rw [HVL.out, HGT.out] at hhn hown
                 have HHN : Hid (hn = q) := Lib.hid (by rw [← hhn]; exact HHL.out)
                 have HSA := Lib.hid (own_heirs_sl hown hhn)
                 have HEa : Hid (Ex w8.heap.size none w8 wa) := Lib.hid (HEI.out.trans hex hszi (by simp))
                 have hza : w8.heap.size ≤ wa.heap.size := HEa.out.size
                 clear hhn hown hex)
              | fail)
            have hhq : ((hn : Int) == (q : Int)) = true := by rw [HHN.out]; simp
            have HX20 : Hid (0 ≤ x % 20 ∧ x % 20 < 20) := Lib.hid (by omega)
            go_upto_region 20 with (first
              | (at_builtin
                 (fail_if_success (first | have _x := HDe | fail))
                 refine wpList_appT rfl (.tmp 73) (.tmp 74) _ (by rfl) Tryz.underlying27 Tryz.infoSt wa.heap.size w5.heap.size (some ⟨wa.heap.size, 0, none⟩) 0 0 [] rfl (by rfl) ro k rc (by rfl) xs HXL.out (ownT_empty wa _ (by omega) rfl) (HXS.out.2.2.1.keep fun b e hb => (Ex.new wa _).block b (by omega) (by simp) |>.trans (HEa.out.block b hb (by simp))) (fun y hy => ((HXS.out.2.1 y hy).keep (fun b h _ => ((Ex.new wa _).block b (by omega) (by simp)).trans (HEa.out.block b h.1 (by simp)))).mono fun b h _ => ⟨h.2, by simp [rowOf]; omega⟩) (by omega) (by simp) k (by omega) ?_
                 intro ao3 cap3 we hod hed hbd hrd
                 have HDe : Hid (OwnT we wa.heap.size w5.heap.size ao3 cap3 (s0 :: ls) ∧ Ex wa.heap.size none wa we) := Lib.hid ⟨by rw [← HXS.out.1]; simpa using hod, (Ex.new wa _).trans hed (by simp) (by simp)⟩
                 have hze : wa.heap.size ≤ we.heap.size := HDe.out.2.size
                 clear hod hed hbd hrd)
              | (go_at_call 24
                 refine (millLoss_any _ 0 0 0 7 _ (by have := HX20.out; omega) (by omega) (by omega) (by omega) (by omega) (by omega)).mono ?_
                 rintro e wf ⟨s, la', na, ca, pa, np, cp, rfl, hs, hl, hex⟩
                 have HS := Lib.hid hs
                 have HLS := Lib.hid hl
                 have hzf : we.heap.size ≤ wf.heap.size := hex.size
                 have HDf : Hid (OwnT wf wa.heap.size w5.heap.size ao3 cap3 (s0 :: ls) ∧ Ex wa.heap.size none wa wf) := Lib.hid ⟨HDe.out.1.keep hex (Nat.le_refl _), HDe.out.2.trans hex hze (by simp)⟩
                 clear hs hl hex)
              | (at_builtin
                 refine wpList_appT rfl (.tmp 75) (.tmp 82) _ (by rfl) Tryz.underlying27 Tryz.infoSt wa.heap.size w5.heap.size ao3 cap3 k (s0 :: ls) HN.out (by rfl) (some ⟨wf.heap.size, 0, none⟩) 1 1 (by rfl) [(s, ⟨la', na, ca⟩, ⟨pa, np, cp⟩)] rfl (HDf.out.1.keep (Ex.new wf _) (Nat.le_refl _)) (lit_cells rfl) (fun y hy => by rw [List.mem_singleton.1 hy]; exact (HLS.out.keep fun b _ hb => (Ex.new wf _).block b hb (by simp)).mono fun b h _ => ⟨by omega, fun e => by have := HDe.out.1.row b e; omega⟩) (by omega) (by simp; omega) (k + 1) (by omega) ?_
                 intro ao4 cap4 wg hod hed hbd hrd
                 have HDg : Hid (OwnT wg wa.heap.size w5.heap.size ao4 cap4 (s0 :: ls ++ [s]) ∧ Ex wa.heap.size none wa wg) := Lib.hid ⟨hod, (HDf.out.2.trans (Ex.new wf _) (by omega) (by simp)).trans hed (Nat.le_refl _) (by simp)⟩
                 have hzg : wf.heap.size ≤ wg.heap.size := by have := hed.size; simp at this; omega
                 have HLG : Hid ((s0 :: ls ++ [s]).length = k + 1) := Lib.hid (by rw [List.length_append, HN.out]; rfl)
                 clear hod hed hbd hrd)
              | (go_at_call 15
                 refine (heirsP_any (.slice ao4 (k + 1) cap4) (s0 :: ls ++ [s]) _ (by have q := (HDg.out.1.s (by omega)).sl; rw [HLG.out] at q; exact q) (by rw [HLG.out]; omega) (fun y hy => by
                   rcases List.mem_append.1 hy with hy | hy
                   · exact HLI.out y hy
                   · rw [List.mem_singleton.1 hy]
                     have := HS.out.2.2.1
                     exact ⟨by have := this.list; omega, by have := this.pins; omega⟩)).mono ?_
                 rintro e wh ⟨hb, hd, hm', rfl, hhm, hown, hex⟩
                 have hhe : heirsP (votesG (s0 :: ls ++ [s])) (guardsTo (s0 :: ls ++ [s]) 64) = heirsP vl [(0, (m : Int) / 2 + 1, gsM m)] := by
                   obtain ⟨a1, a2', a3, a4, _⟩ := HG0.out
                   rw [List.cons_append, guardsTo_one a1 a3 (fun y hy => by
                     rcases List.mem_append.1 hy with hy | hy
                     · have := (HOK.out y hy).1; omega
                     · rw [List.mem_singleton.1 hy]; have := HS.out.1.kind; omega), a2', ← List.cons_append, heirs_more HV0.out (fun y hy => by
                       have h1 := gsM_low hy
                       have h2 := HS.out.2.2.2.2.1
                       have h3 := HX20.out
                       omega), HVL.out]
                 rw [hhe] at hhm hown
                 have HSB := Lib.hid (own_heirs_sl hown hhm)
                 have HEh : Hid (Ex wa.heap.size none wa wh) := Lib.hid (HDg.out.2.trans hex (by omega) (by simp))
                 have hzh : wg.heap.size ≤ wh.heap.size := hex.size
                 clear hhm hown hex hhe)
              | fail)
            have HSAh : Hid (Sl heirRep (fun _ => True) wh (.slice ha hn hc) (heirsP vl [(0, (m : Int) / 2 + 1, gsM m)])) := Lib.hid ((HSA.out.keep (by decide) fun b _ hb => HEh.out.block b hb (by simp)).mono (by decide) fun _ _ _ => trivial)
            go_wp2_with (first
              | (go_at_call 25; refine (asB (same35_any _ _ _ _ _ HSAh.out HSB.out (by rw [HHL.out]; omega)) (decide_eq_true rfl)).mono ?_; rintro e wi ⟨rfl, hex⟩; have HEi := Lib.hid (HEh.out.trans hex (by omega) (by simp)); have hzi : wh.heap.size ≤ wi.heap.size := hex.size; clear hex)
              | (go_at_call 11; refine (awake35_any _).mono ?_; rintro e wj ⟨rfl, hexj⟩)
              | fail)
            go_ret
            refine ⟨rfl, Ex.below ?_⟩
            have e1 : Ex w.heap.size none w w8 := HD3.out.2.trans HEX.out (by omega) (fun q e _ => by cases e; omega)
            exact ((e1.trans HEa.out (by omega) (by simp)).trans HEi.out (by omega) (by simp)).trans hexj (by omega) (by simp)
  · have hmI : ¬ (L.length : Int) ≤ 400 := by omega
    have hmd : decide ((L.length : Int) ≤ 400) = false := decide_eq_false hmI
    clear hmI
    go_enter Tryz.func4, Tryz.ntmps4
    go_wp2_with (first
      | (go_at_call 10; refine (light_any _ _ _ _).mono ?_; rintro e w' ⟨rfl, rfl⟩)
      | (go_at_call 11; refine (awake35_any _).mono ?_; rintro e w1 ⟨rfl, hex⟩))
    go_ret
    exact ⟨rfl, hex.below⟩
end Go.Proofs.YtdgfankkapeclaaGreat

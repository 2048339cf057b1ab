/- ref05.Adds: a contract. No statement of the seat. | made.StoreOf: a contract. No statement of the seat. -/
import Derived.Test.YtoeklgbajggndaaGreatPut05G
import Derived.Test.YtoeklgbajggndaaGreatOwn04G
import Derived.Test.YtoeklgbajggndaaGreatMg01
import Derived.Deep.RegionHeld3
import Derived.Test.YtoeklgbajggndaaGreatMg03
namespace Go.Proofs.YtoeklgbajggndaaGreat
open Go.RowKit Go.Sort

def adds05 (acc : List St) (s : St) : List St := if checkI s = 0 ∧ sealedB s = true ∧ (put05 acc s).length ≤ 1000 then put05 acc s else acc
theorem mem_adds05 {acc : List St} {s x : St} (h : x ∈ adds05 acc s) : x ∈ acc ∨ x = s := by
  unfold adds05 at h
  split at h
  · exact mem_put05 h
  · exact .inl h
theorem adds05_len {acc : List St} (s : St) (h : acc.length ≤ 1000) : (adds05 acc s).length ≤ 1000 := by
  unfold adds05
  split
  · next h => exact h.2.2
  · exact h
theorem three_boxes (w : World) (v : Value) (cs : Array Value) (v' : Value) (t t' t'' : TypeId) : (((w.alloc (.cells #[v] t)).alloc (.cells cs t')).alloc (.cells #[v'] t'')).heap[w.heap.size]? = some (.cells #[v] t (0, 0)) ∧ (((w.alloc (.cells #[v] t)).alloc (.cells cs t')).alloc (.cells #[v'] t'')).heap[w.heap.size + 1]? = some (.cells cs t' (0, 0)) ∧ (((w.alloc (.cells #[v] t)).alloc (.cells cs t')).alloc (.cells #[v'] t'')).heap[w.heap.size + 2]? = some (.cells #[v'] t'' (0, 0)) := by
  refine ⟨?_, ?_, ?_⟩
  · exact ((Ex.new _ _).block w.heap.size (by simp; omega) (by simp)).trans (((Ex.new _ _).block w.heap.size (by simp) (by simp)).trans (heap_alloc_new w _))
  · refine ((Ex.new _ _).block _ (by simp) (by simp)).trans ?_
    have h := heap_alloc_new (w.alloc (.cells #[v] t)) (.cells cs t')
    simpa using h
  · have h := heap_alloc_new ((w.alloc (.cells #[v] t)).alloc (.cells cs t')) (.cells #[v'] t'')
    simpa using h

set_option maxHeartbeats 8000000 in
set_option maxRecDepth 100000 in
theorem adds05_any {P : Nat → Prop} (ro : Option Addr) (rc : Nat) (acc : List St) (s : St) (lo po : Option Addr) (ln lc pn pc base : Nat) (w : World) (hown : OwnS w base ro rc acc) (hls : Lies P w (s, ⟨lo, ln, lc⟩, ⟨po, pn, pc⟩)) (hbase : base ≤ w.heap.size) (hm : acc.length ≤ 1000) (hla : TameL acc) (ht : Tame s) :
    Calls Tryz.prog 38 #[.agg #[.slice ro acc.length rc], .agg #[.int .i64 s.author, .int .i64 s.number, .string s.prev, .int .i64 s.time, .int .i64 s.kind, .int .i64 s.a, .int .i64 s.b, .int .i64 s.c, .slice lo ln lc, .slice po pn pc, .string s.body, .int .i64 s.key, .string s.dig]] w fun e w' => ∃ ro' rc', e = .returned (.agg #[.slice ro' (adds05 acc s).length rc']) ∧ OwnS w' base ro' rc' (adds05 acc s) ∧ Ex w.heap.size none w w' := by
  obtain ⟨n, hn⟩ : ∃ n, n = acc.length := ⟨_, rfl⟩
  have HAL : Hid (acc.length = n) := Lib.hid hn.symm
  rw [HAL.out] at hm ⊢
  have hm1 : s.list.length ≤ 1000000 ∧ s.pins.length ≤ 1000000 := ⟨by have := ht.list; omega, by have := ht.pins; omega⟩
  have HLA := Lib.hid hla
  have HT := Lib.hid ht
  have HO := Lib.hid hown
  have HLS := Lib.hid hls
  clear hla hown hls hn ht
  go_enter Tryz.func38, Tryz.ntmps38
  go_upto_region 1 with (fail)
  obtain ⟨ws, hws⟩ : ∃ ws : World, ws = ((w.alloc (.cells #[.slice ro n rc] 37)).alloc (.cells #[.int .i64 s.author, .int .i64 s.number, .string s.prev, .int .i64 s.time, .int .i64 s.kind, .int .i64 s.a, .int .i64 s.b, .int .i64 s.c, .slice lo ln lc, .slice po pn pc, .string s.body, .int .i64 s.key, .string s.dig] 27)).alloc (.cells #[.slice none 0 0] 37) := ⟨_, rfl⟩
  have HEs : Hid (Ex w.heap.size none w ws) := by rw [hws]; exact ((Ex.new w _).alloc (by simp) _).alloc (by simp; omega) _
  have HBs : Hid (ws.heap[w.heap.size]? = some (.cells #[.slice ro n rc] 37 (0, 0)) ∧ ws.heap[w.heap.size + 1]? = some (.cells #[.int .i64 s.author, .int .i64 s.number, .string s.prev, .int .i64 s.time, .int .i64 s.kind, .int .i64 s.a, .int .i64 s.b, .int .i64 s.c, .slice lo ln lc, .slice po pn pc, .string s.body, .int .i64 s.key, .string s.dig] 27 (0, 0)) ∧ ws.heap[w.heap.size + 2]? = some (.cells #[.slice none 0 0] 37 (0, 0))) := by rw [hws]; exact three_boxes w _ _ _ _ _ _
  have hzs : ws.heap.size = w.heap.size + 3 := by rw [hws]; simp
  have HQS : Hid (∀ w', Ex ws.heap.size none ws w' → (w'.cell? ⟨w.heap.size + 1, 0, none⟩ = some (.int .i64 s.author) ∧ w'.cell? ⟨w.heap.size + 1, 1, none⟩ = some (.int .i64 s.number) ∧ w'.cell? ⟨w.heap.size + 1, 2, none⟩ = some (.string s.prev) ∧ w'.cell? ⟨w.heap.size + 1, 3, none⟩ = some (.int .i64 s.time) ∧ w'.cell? ⟨w.heap.size + 1, 4, none⟩ = some (.int .i64 s.kind) ∧ w'.cell? ⟨w.heap.size + 1, 5, none⟩ = some (.int .i64 s.a) ∧ w'.cell? ⟨w.heap.size + 1, 6, none⟩ = some (.int .i64 s.b) ∧ w'.cell? ⟨w.heap.size + 1, 7, none⟩ = some (.int .i64 s.c) ∧ w'.cell? ⟨w.heap.size + 1, 8, none⟩ = some (.slice lo ln lc) ∧ w'.cell? ⟨w.heap.size + 1, 9, none⟩ = some (.slice po pn pc) ∧ w'.cell? ⟨w.heap.size + 1, 10, none⟩ = some (.string s.body) ∧ w'.cell? ⟨w.heap.size + 1, 11, none⟩ = some (.int .i64 s.key) ∧ w'.cell? ⟨w.heap.size + 1, 12, none⟩ = some (.string s.dig)) ∧ w'.cell? ⟨w.heap.size, 0, none⟩ = some (.slice ro n rc) ∧ w'.cell? ⟨w.heap.size + 2, 0, none⟩ = some (.slice none 0 0) ∧ w'.frozen? ⟨w.heap.size, 0, none⟩ = false ∧ w'.frozen? ⟨w.heap.size + 2, 0, none⟩ = false) := Lib.hid (fun w' h => by
    have k0 := (h.block w.heap.size (by omega) (by simp)).trans HBs.out.1
    have k2 := (h.block (w.heap.size + 2) (by omega) (by simp)).trans HBs.out.2.2
    exact ⟨(st_block ((h.block (w.heap.size + 1) (by omega) (by simp)).trans HBs.out.2.1)).1, box_cell k0, box_cell k2, frozen_of_row _ _ _ _ _ k0, frozen_of_row _ _ _ _ _ k2⟩)
  rw [← hws]
  clear hws
  obtain ⟨⟨d0, d1, d2, d3, d4, d5, d6, d7, d8, d9, d10, d11, d12⟩, b0, b2, z0, z2⟩ := HQS.out _ (Ex.refl _ _ ws)
  by_cases r2 : checkI s = 0
  · have r2d : (checkI s != 0) = false := by simp [r2]
    have R2 := Lib.hid r2
    clear r2
    cases r3 : sealedB s with
    | false =>
      have HK : Hid (adds05 acc s = acc) := Lib.hid (by unfold adds05; rw [if_neg (fun h => by rw [r3] at h; cases h.2.1)])

      go_wp2_with (first
        | (go_at_call 54; refine (check03_any s lo po ln lc pn pc _ (HLS.out.keep fun b _ hb => (HEs.out.block b hb (by simp))) (by omega)).mono ?_; rintro e w7 ⟨rfl, hex7⟩; have HE7 : Hid (Ex ws.heap.size none ws w7) := Lib.hid hex7; have hz7 : ws.heap.size ≤ w7.heap.size := hex7.size; clear hex7 d0 d1 d2 d3 d4 d5 d6 d7 d8 d9 d10 d11 d12 b0 b2 z0 z2; obtain ⟨⟨d0, d1, d2, d3, d4, d5, d6, d7, d8, d9, d10, d11, d12⟩, b0, b2, z0, z2⟩ := HQS.out _ HE7.out)
        | (go_at_call 55; refine (sealed03_any s lo po ln lc pn pc _ (HLS.out.keep fun b _ hb => (HE7.out.block b (by omega) (by simp)).trans (HEs.out.block b hb (by simp))) HT.out).mono ?_; rintro e w8 ⟨rfl, hex8⟩; have HE8 : Hid (Ex ws.heap.size none ws w8) := Lib.hid (HE7.out.trans hex8 hz7 (by simp)); have hz8 : ws.heap.size ≤ w8.heap.size := HE8.out.size; clear hex8 d0 d1 d2 d3 d4 d5 d6 d7 d8 d9 d10 d11 d12 b0 b2 z0 z2; obtain ⟨⟨d0, d1, d2, d3, d4, d5, d6, d7, d8, d9, d10, d11, d12⟩, b0, b2, z0, z2⟩ := HQS.out _ HE8.out)
        | fail)
      refine bodyPost_ret (v := .agg #[.slice ro n rc]) (by simp [results, Tryz.results38, go_sem, b2]) rfl ?_
      exact ⟨_, _, by rw [HK.out, HAL.out], by rw [HK.out]; exact (HO.out.keep ((HEs.out.trans HE8.out (by omega) (by simp)).setCell _ _ _ (.inr (by omega))) (Nat.le_refl _)), (HEs.out.trans HE8.out (by omega) (by simp)).setCell _ _ _ (.inr (by omega))⟩
    | true =>
      obtain ⟨pl, hpl⟩ : ∃ pl, pl = put05 acc s := ⟨_, rfl⟩
      obtain ⟨k, hk⟩ : ∃ k, k = pl.length := ⟨_, rfl⟩
      have hkn : k ≤ n + 1 := by rw [hk, hpl, ← HAL.out]; exact put05_len acc s
      have HKL : Hid (pl.length = k) := Lib.hid hk.symm
      have HPC : Hid (∀ w', Ex ws.heap.size none ws w' → Calls Tryz.prog 81 #[.slice ro n rc, .agg #[.int .i64 s.author, .int .i64 s.number, .string s.prev, .int .i64 s.time, .int .i64 s.kind, .int .i64 s.a, .int .i64 s.b, .int .i64 s.c, .slice lo ln lc, .slice po pn pc, .string s.body, .int .i64 s.key, .string s.dig]] w' fun e w9 => ∃ ro' rc' b, e = .returned (.tuple #[.slice ro' k rc', .bool b]) ∧ OwnZ (w.heap.size + 2) base w9 ro' rc' pl ∧ Ex w'.heap.size none w' w9) := Lib.hid (fun w' h => by
        rw [hk, hpl, ← HAL.out]
        have h2 := HEs.out.trans h (by omega) (by simp)
        exact put05_any ro rc acc s lo po ln lc pn pc (w.heap.size + 2) base w' ((OwnZ.of HO.out (by omega)).keep (fun b _ _ hlt => h2.block b hlt (by simp))) (by have := h.size; omega) (HLS.out.keep fun b _ hb => h2.block b hb (by simp)) (by have := h2.size; omega) (by rw [HAL.out]; omega) HLA.out.light hm1)
      by_cases h1k : k ≤ 1000
      · have h1kI : (k : Int) ≤ 1000 := by omega
        have HK : Hid (adds05 acc s = pl) := Lib.hid (by unfold adds05; rw [if_pos ⟨R2.out, r3, by rw [← hpl, HKL.out]; exact h1k⟩, hpl])
        clear hpl hk
        go_wp2_with (first
          | (go_at_call 54; refine (check03_any s lo po ln lc pn pc _ (HLS.out.keep fun b _ hb => (HEs.out.block b hb (by simp))) (by omega)).mono ?_; rintro e w7 ⟨rfl, hex7⟩; have HE7 : Hid (Ex ws.heap.size none ws w7) := Lib.hid hex7; have hz7 : ws.heap.size ≤ w7.heap.size := hex7.size; clear hex7 d0 d1 d2 d3 d4 d5 d6 d7 d8 d9 d10 d11 d12 b0 b2 z0 z2; obtain ⟨⟨d0, d1, d2, d3, d4, d5, d6, d7, d8, d9, d10, d11, d12⟩, b0, b2, z0, z2⟩ := HQS.out _ HE7.out)
          | (go_at_call 55; refine (sealed03_any s lo po ln lc pn pc _ (HLS.out.keep fun b _ hb => (HE7.out.block b (by omega) (by simp)).trans (HEs.out.block b hb (by simp))) HT.out).mono ?_; rintro e w8 ⟨rfl, hex8⟩; have HE8 : Hid (Ex ws.heap.size none ws w8) := Lib.hid (HE7.out.trans hex8 hz7 (by simp)); have hz8 : ws.heap.size ≤ w8.heap.size := HE8.out.size; clear hex8 d0 d1 d2 d3 d4 d5 d6 d7 d8 d9 d10 d11 d12 b0 b2 z0 z2; obtain ⟨⟨d0, d1, d2, d3, d4, d5, d6, d7, d8, d9, d10, d11, d12⟩, b0, b2, z0, z2⟩ := HQS.out _ HE8.out)
          | (go_at_call 81; refine (HPC.out _ HE8.out).mono ?_; rintro e w9 ⟨r3, c3, b3, rfl, hown, hex9⟩; have H9 : Hid (OwnZ (w.heap.size + 2) base w9 r3 c3 pl ∧ Ex ws.heap.size none ws w9) := Lib.hid ⟨hown, HE8.out.trans hex9 hz8 (by simp)⟩; have hz9 : ws.heap.size ≤ w9.heap.size := H9.out.2.size; clear hown hex9 d0 d1 d2 d3 d4 d5 d6 d7 d8 d9 d10 d11 d12 b0 b2 z0 z2; obtain ⟨⟨d0, d1, d2, d3, d4, d5, d6, d7, d8, d9, d10, d11, d12⟩, b0, b2, z0, z2⟩ := HQS.out _ H9.out.2)
          | fail)
        refine bodyPost_ret (v := .agg #[.slice r3 k c3]) (by simp [results, Tryz.results38, go_sem, b2]) rfl ?_
        exact ⟨_, _, by rw [HK.out, HKL.out], by rw [HK.out]; exact (H9.out.1.keep (fun b _ hne _ => Below.heap_setCell _ _ _ _ hne)).s, (HEs.out.trans H9.out.2 (by omega) (by simp)).setCell _ _ _ (.inr (by omega))⟩
      · have h1kI : ¬ (k : Int) ≤ 1000 := by omega
        have HK : Hid (adds05 acc s = acc) := Lib.hid (by unfold adds05; rw [if_neg (fun h => h1k (by rw [← HKL.out, hpl]; exact h.2.2))])
        clear hpl hk
        go_wp2_with (first
          | (go_at_call 54; refine (check03_any s lo po ln lc pn pc _ (HLS.out.keep fun b _ hb => (HEs.out.block b hb (by simp))) (by omega)).mono ?_; rintro e w7 ⟨rfl, hex7⟩; have HE7 : Hid (Ex ws.heap.size none ws w7) := Lib.hid hex7; have hz7 : ws.heap.size ≤ w7.heap.size := hex7.size; clear hex7 d0 d1 d2 d3 d4 d5 d6 d7 d8 d9 d10 d11 d12 b0 b2 z0 z2; obtain ⟨⟨d0, d1, d2, d3, d4, d5, d6, d7, d8, d9, d10, d11, d12⟩, b0, b2, z0, z2⟩ := HQS.out _ HE7.out)
          | (go_at_call 55; refine (sealed03_any s lo po ln lc pn pc _ (HLS.out.keep fun b _ hb => (HE7.out.block b (by omega) (by simp)).trans (HEs.out.block b hb (by simp))) HT.out).mono ?_; rintro e w8 ⟨rfl, hex8⟩; have HE8 : Hid (Ex ws.heap.size none ws w8) := Lib.hid (HE7.out.trans hex8 hz7 (by simp)); have hz8 : ws.heap.size ≤ w8.heap.size := HE8.out.size; clear hex8 d0 d1 d2 d3 d4 d5 d6 d7 d8 d9 d10 d11 d12 b0 b2 z0 z2; obtain ⟨⟨d0, d1, d2, d3, d4, d5, d6, d7, d8, d9, d10, d11, d12⟩, b0, b2, z0, z2⟩ := HQS.out _ HE8.out)
          | (go_at_call 81; refine (HPC.out _ HE8.out).mono ?_; rintro e w9 ⟨r3, c3, b3, rfl, hown, hex9⟩; have H9 : Hid (OwnZ (w.heap.size + 2) base w9 r3 c3 pl ∧ Ex ws.heap.size none ws w9) := Lib.hid ⟨hown, HE8.out.trans hex9 hz8 (by simp)⟩; have hz9 : ws.heap.size ≤ w9.heap.size := H9.out.2.size; clear hown hex9 d0 d1 d2 d3 d4 d5 d6 d7 d8 d9 d10 d11 d12 b0 b2 z0 z2; obtain ⟨⟨d0, d1, d2, d3, d4, d5, d6, d7, d8, d9, d10, d11, d12⟩, b0, b2, z0, z2⟩ := HQS.out _ H9.out.2)
          | fail)
        refine bodyPost_ret (v := .agg #[.slice ro n rc]) (by simp [results, Tryz.results38, go_sem, b2]) rfl ?_
        exact ⟨_, _, by rw [HK.out, HAL.out], by rw [HK.out]; exact (HO.out.keep ((HEs.out.trans H9.out.2 (by omega) (by simp)).setCell _ _ _ (.inr (by omega))) (Nat.le_refl _)), (HEs.out.trans H9.out.2 (by omega) (by simp)).setCell _ _ _ (.inr (by omega))⟩
  · have r2d : (checkI s != 0) = true := by simp [r2]
    have HK : Hid (adds05 acc s = acc) := Lib.hid (by unfold adds05; rw [if_neg (fun h => r2 h.1)])
    clear r2
    go_wp2_with (first
      | (go_at_call 54; refine (check03_any s lo po ln lc pn pc _ (HLS.out.keep fun b _ hb => (HEs.out.block b hb (by simp))) (by omega)).mono ?_; rintro e w7 ⟨rfl, hex7⟩; have HE7 : Hid (Ex ws.heap.size none ws w7) := Lib.hid hex7; have hz7 : ws.heap.size ≤ w7.heap.size := hex7.size; clear hex7 d0 d1 d2 d3 d4 d5 d6 d7 d8 d9 d10 d11 d12 b0 b2 z0 z2; obtain ⟨⟨d0, d1, d2, d3, d4, d5, d6, d7, d8, d9, d10, d11, d12⟩, b0, b2, z0, z2⟩ := HQS.out _ HE7.out)
      | fail)
    refine bodyPost_ret (v := .agg #[.slice ro n rc]) (by simp [results, Tryz.results38, go_sem, b2]) rfl ?_
    exact ⟨_, _, by rw [HK.out, HAL.out], by rw [HK.out]; exact (HO.out.keep ((HEs.out.trans HE7.out (by omega) (by simp)).setCell _ _ _ (.inr (by omega))) (Nat.le_refl _)), (HEs.out.trans HE7.out (by omega) (by simp)).setCell _ _ _ (.inr (by omega))⟩
end Go.Proofs.YtoeklgbajggndaaGreat

namespace Go.Proofs.YtoeklgbajggndaaGreat
open Go.RowKit Go.Sort

def storeL (l : List St) : List St := l.foldl adds05 []
theorem storeL_snoc {l : List St} {k : Nat} {s : St} (h : l[k]? = some s) : storeL (l.take (k + 1)) = adds05 (storeL (l.take k)) s := by
  unfold storeL
  rw [List.take_add_one, h]
  simp [List.foldl_append]
theorem mem_addsFold {x : St} : ∀ (l acc : List St), x ∈ l.foldl adds05 acc → x ∈ acc ∨ x ∈ l := by
  intro l
  induction l with
  | nil => exact fun acc h => .inl h
  | cons s r ih =>
    intro acc h
    rcases ih _ h with h | h
    · rcases mem_adds05 h with h | h
      · exact .inl h
      · exact .inr (by simp [h])
    · exact .inr (by simp [h])
theorem mem_storeL {l : List St} {x : St} (h : x ∈ storeL l) : x ∈ l := by
  rcases mem_addsFold l [] h with h | h
  · cases h
  · exact h
set_option maxHeartbeats 8000000 in
set_option maxRecDepth 100000 in
theorem storeOf_any {P : Nat → Prop} (v : Value) (l : List St) (w : World) (hv : Sl stRep P w v l) (hm : l.length ≤ 100000) (ht : TameL l) :
    Calls Tryz.prog 12 #[v] w fun e w' => ∃ (ro : Option Addr) (rc k : Nat), e = .returned (.agg #[.slice ro k rc]) ∧ k = (storeL l).length ∧ OwnS w' w.heap.size ro rc (storeL l) ∧ Ex w.heap.size none w w' := by
  obtain ⟨ao, cap, rfl, hx⟩ := hv
  have HX := Lib.hid hx
  have HT := Lib.hid ht
  clear hx ht
  go_enter Tryz.func12, Tryz.ntmps12
  go_upto_region 2 with (fail)
  obtain ⟨w0, hw0⟩ : ∃ w0 : World, w0 = (w.alloc (.cells #[.slice none 0 0] 37)).alloc (.cells #[.slice none 0 0] 37) := ⟨_, rfl⟩
  have HE0 : Hid (Ex w.heap.size none w w0) := by rw [hw0]; exact ex_two0 _ _
  have HB0 : Hid (w0.heap[w.heap.size]? = some (.cells #[.slice none 0 0] 37 (0, 0)) ∧ w0.heap[w.heap.size + 1]? = some (.cells #[.slice none 0 0] 37 (0, 0))) := by rw [hw0]; exact two_boxes w _ _ _
  have hz0 : w0.heap.size = w.heap.size + 2 := by rw [hw0]; simp
  rw [← hw0]
  clear hw0
  go_wp2
  go_loopw [4] (fun i wr => ∃ (k n : Nat) (ro : Option Addr) (rc : Nat) (acc : List St), i = .int .i64 k ∧ k ≤ l.length ∧ Hid (acc = storeL (l.take k) ∧ acc.length = n ∧ n ≤ 1000) ∧ Hid (wr.heap[w.heap.size]? = some (.cells #[.slice none 0 0] 37 (0, 0)) ∧ wr.heap[w.heap.size + 1]? = some (.cells #[.slice ro n rc] 37 (0, 0))) ∧ Hid (OwnS wr (w.heap.size + 2) ro rc acc) ∧ Hid (Ex w.heap.size none w wr) ∧ w.heap.size + 2 ≤ wr.heap.size) (fun i _ => l.length - (intOf i).toNat)
  case atStart => exact ⟨0, 0, none, 0, [], rfl, by omega, Lib.hid ⟨rfl, rfl, by omega⟩, HB0, Lib.hid (OwnS.nil _ _), HE0, by omega⟩
  case round =>
    obtain ⟨k, n, ro, rc, acc, rfl, hk, HA, HB, HO, HEX, hsz⟩ := hrel
    have b1 := box_cell HB.out.2
    have z1 := frozen_of_row _ _ 0 _ _ HB.out.2
    by_cases hlt : k < l.length
    · have hltI : (k : Int) < (l.length : Int) := by omega
      obtain ⟨b, off, s, ⟨lo, ln, lc⟩, ⟨po, pn, pc⟩, rfl, _, hls, hr, HXs⟩ := st_get (HX.out.keep (by decide) (fun b _ hb => HEX.out.block b hb (by simp))) k hlt
      have hc := st_at hr
      simp only [Sv.v] at hc
      obtain ⟨c0, c1, c2, c3, c4, c5, c6, c7, c8, c9, c10, c11, c12⟩ := hc
      obtain ⟨acc2, ha2⟩ : ∃ acc2, acc2 = adds05 acc s := ⟨_, rfl⟩
      obtain ⟨n2, hn2⟩ : ∃ n2, n2 = acc2.length := ⟨_, rfl⟩
      have HA2 : Hid (acc2 = storeL (l.take (k + 1)) ∧ acc2.length = n2 ∧ n2 ≤ 1000) := Lib.hid ⟨by rw [ha2, storeL_snoc HXs.out, ← HA.out.1], hn2.symm, by rw [hn2, ha2]; exact adds05_len s (by rw [HA.out.2.1]; exact HA.out.2.2)⟩
      have HTA : Hid (TameL acc) := Lib.hid (fun x hx => by
        rw [HA.out.1] at hx
        exact HT.out x (List.mem_of_mem_take (mem_storeL hx)))
      have HAC : Hid (∀ w', Ex wr.heap.size none wr w' → Calls Tryz.prog 38 #[.agg #[.slice ro n rc], .agg #[.int .i64 s.author, .int .i64 s.number, .string s.prev, .int .i64 s.time, .int .i64 s.kind, .int .i64 s.a, .int .i64 s.b, .int .i64 s.c, .slice lo ln lc, .slice po pn pc, .string s.body, .int .i64 s.key, .string s.dig]] w' fun e w3 => ∃ ro' rc', e = .returned (.agg #[.slice ro' n2 rc']) ∧ OwnS w3 (w.heap.size + 2) ro' rc' acc2 ∧ Ex w'.heap.size none w' w3) := Lib.hid (fun w' h => by
        rw [hn2, ha2, ← HA.out.2.1]
        exact adds05_any ro rc acc s lo po ln lc pn pc (w.heap.size + 2) w' (HO.out.keep h (Nat.le_refl _)) (hls.keep fun b _ hb => h.block b hb (by simp)) (by have := h.size; omega) (by rw [HA.out.2.1]; exact HA.out.2.2) HTA.out (HT.out.get HXs.out))
      clear ha2 hn2 hls hr
      go_upto_region 5 with (fail)
      go_region_with
        (first
          | (go_at_call 38
             (refine (HAC.out _ ((Ex.refl _ _ wr).drew)).mono ?_)
             rintro e w3 ⟨r3, q3, rfl, hown, hex3⟩
             (have H3 : Hid (OwnS w3 (w.heap.size + 2) r3 q3 acc2 ∧ Ex wr.heap.size none wr w3) := Lib.hid ⟨hown, (Ex.refl _ _ wr).drew.trans hex3 (Nat.le_refl _) (by simp)⟩)
             (have hz3 : wr.heap.size ≤ w3.heap.size := H3.out.2.size)
             (have HB3 : Hid (w3.heap[w.heap.size]? = some (.cells #[.slice none 0 0] 37 (0, 0)) ∧ w3.heap[w.heap.size + 1]? = some (.cells #[.slice ro n rc] 37 (0, 0))) := Lib.hid ⟨(H3.out.2.block _ (by omega) (by simp)).trans HB.out.1, (H3.out.2.block _ (by omega) (by simp)).trans HB.out.2⟩)
             clear hown hex3 c0 c1 c2 c3 c4 c5 c6 c7 c8 c9 c10 c11 c12 b1 z1
             have b1 := box_cell HB3.out.2
             have z1 := frozen_of_row _ _ 0 _ _ HB3.out.2)
          | fail)
      all_goals (
        obtain ⟨w4, hw4⟩ : ∃ w4 : World, w4 = w3.setCell ⟨w.heap.size + 1, 0, none⟩ (.slice r3 n2 q3) := ⟨_, rfl⟩
        have HB4 : Hid (w4.heap[w.heap.size]? = some (.cells #[.slice none 0 0] 37 (0, 0)) ∧ w4.heap[w.heap.size + 1]? = some (.cells #[.slice r3 n2 q3] 37 (0, 0))) := Lib.hid (by
          rw [hw4]
          exact ⟨set_far (by omega) HB3.out.1, by rw [heap_setCell_same _ _ _ _ _ _ HB3.out.2]; rfl⟩)
        have HO4 : Hid (OwnS w4 (w.heap.size + 2) r3 q3 acc2) := Lib.hid (by
          rw [hw4]
          exact H3.out.1.keepP (p := some (w.heap.size + 1)) ((Ex.refl _ _ _).setCell _ _ _ (.inl rfl)) (Nat.le_refl _) (fun q e => by cases e; omega))
        have HE4 : Hid (Ex w.heap.size none w w4) := Lib.hid (by
          rw [hw4]
          exact (HEX.out.trans H3.out.2 (by omega) (by simp)).setCell _ _ _ (.inr (by omega)))
        have hz4 : w.heap.size + 2 ≤ w4.heap.size := by rw [hw4]; simp; omega
        rw [← hw4]
        clear hw4 b1 z1
        go_wp2
        go_roundw
        case rel => exact ⟨k + 1, n2, r3, q3, acc2, by go_num, by omega, HA2, HB4, HO4, HE4, hz4⟩
        case measure => simp [intOf] <;> omega)
    · have hltI : ¬ (k : Int) < (l.length : Int) := by omega
      have hkl : k = l.length := by omega
      have HF : Hid (acc = storeL l) := Lib.hid (by rw [HA.out.1, hkl, List.take_length])
      have b0 := box_cell HB.out.1
      have z0 := frozen_of_row _ _ 0 _ _ HB.out.1
      clear hkl
      go_wp2
      refine bodyPost_ret (v := .agg #[.slice ro n rc]) (by simp [results, Tryz.results12, go_sem, b0]) rfl ?_
      exact ⟨ro, rc, n, rfl, by rw [← HF.out, HA.out.2.1], by rw [← HF.out]; exact (HO.out.keepP (B := wr.heap.size) (p := some w.heap.size) ((Ex.refl _ _ _).setCell _ _ _ (.inl rfl)) (Nat.le_refl _) (fun q e => by cases e; omega)).lower (by omega), HEX.out.setCell _ _ _ (.inr (Nat.le_refl _))⟩
end Go.Proofs.YtoeklgbajggndaaGreat

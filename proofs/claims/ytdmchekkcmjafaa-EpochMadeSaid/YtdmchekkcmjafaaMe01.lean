/- ref05.Adds: a contract. No statement of the seat. | made.StoreOf: a contract. No statement of the seat. | made.Dice.Store: a contract that tells bounds. No statement of the seat. | EpochMade: the walk. No statement of the seat. -/
import Derived.Test.YtdmchekkcmjafaaMe00
import Derived.Test.YtdmchekkcmjafaaOwn04G
import Derived.Deep.RegionHeld3
import Derived.Test.YtdmchekkcmjafaaMg05
import Derived.Test.YtdmchekkcmjafaaListsDG
import Derived.Test.YtdmchekkcmjafaaEpochEachWalkG
import Derived.Test.YtdmchekkcmjafaaRefOrderG
namespace Go.Proofs.Ytdmchekkcmjafaa
open Go.RowKit Go.Sort

def adds05 (acc : List St) (s : St) : List St := if checkI s = 0 ∧ sealedB s = true ∧ (put05 acc s).length ≤ 1000 then put05 acc s else acc
theorem mem_adds05 {acc : List St} {s x : St} (h : x ∈ adds05 acc s) : x ∈ acc ∨ x = s := by
  unfold adds05 at h
  split at h
  · exact mem_put05 h
  · exact .inl h
theorem adds05_len {acc : List St} (s : St) (h : acc.length ≤ 1000) : (adds05 acc s).length ≤ 1000 := by
  unfold adds05
  split
  · next h => exact h.2.2
  · exact h
theorem three_boxes (w : World) (v : Value) (cs : Array Value) (v' : Value) (t t' t'' : TypeId) : (((w.alloc (.cells #[v] t)).alloc (.cells cs t')).alloc (.cells #[v'] t'')).heap[w.heap.size]? = some (.cells #[v] t (0, 0)) ∧ (((w.alloc (.cells #[v] t)).alloc (.cells cs t')).alloc (.cells #[v'] t'')).heap[w.heap.size + 1]? = some (.cells cs t' (0, 0)) ∧ (((w.alloc (.cells #[v] t)).alloc (.cells cs t')).alloc (.cells #[v'] t'')).heap[w.heap.size + 2]? = some (.cells #[v'] t'' (0, 0)) := by
  refine ⟨?_, ?_, ?_⟩
  · exact ((Ex.new _ _).block w.heap.size (by simp; omega) (by simp)).trans (((Ex.new _ _).block w.heap.size (by simp) (by simp)).trans (heap_alloc_new w _))
  · refine ((Ex.new _ _).block _ (by simp) (by simp)).trans ?_
    have h := heap_alloc_new (w.alloc (.cells #[v] t)) (.cells cs t')
    simpa using h
  · have h := heap_alloc_new ((w.alloc (.cells #[v] t)).alloc (.cells cs t')) (.cells #[v'] t'')
    simpa using h

set_option maxHeartbeats 8000000 in
set_option maxRecDepth 100000 in
theorem adds05_any {P : Nat → Prop} (ro : Option Addr) (rc : Nat) (acc : List St) (s : St) (lo po : Option Addr) (ln lc pn pc base : Nat) (w : World) (hown : OwnS w base ro rc acc) (hls : Lies P w (s, ⟨lo, ln, lc⟩, ⟨po, pn, pc⟩)) (hbase : base ≤ w.heap.size) (hm : acc.length ≤ 1000) (hla : TameL acc) (ht : Tame s) :
    Calls Try.prog 50 #[.agg #[.slice ro acc.length rc], .agg #[.int .i64 s.author, .int .i64 s.number, .string s.prev, .int .i64 s.time, .int .i64 s.kind, .int .i64 s.a, .int .i64 s.b, .int .i64 s.c, .slice lo ln lc, .slice po pn pc, .string s.body, .int .i64 s.key, .string s.dig]] w fun e w' => ∃ ro' rc', e = .returned (.agg #[.slice ro' (adds05 acc s).length rc']) ∧ OwnS w' base ro' rc' (adds05 acc s) ∧ Ex w.heap.size none w w' := by
  obtain ⟨n, hn⟩ : ∃ n, n = acc.length := ⟨_, rfl⟩
  have HAL : Hid (acc.length = n) := Lib.hid hn.symm
  rw [HAL.out] at hm ⊢
  have hm1 : s.list.length ≤ 1000000 ∧ s.pins.length ≤ 1000000 := ⟨by have := ht.list; omega, by have := ht.pins; omega⟩
  have HLA := Lib.hid hla
  have HT := Lib.hid ht
  have HO := Lib.hid hown
  have HLS := Lib.hid hls
  clear hla hown hls hn ht
  go_enter Try.func50, Try.ntmps50
  go_upto_region 1 with (fail)
  obtain ⟨ws, hws⟩ : ∃ ws : World, ws = ((w.alloc (.cells #[.slice ro n rc] 42)).alloc (.cells #[.int .i64 s.author, .int .i64 s.number, .string s.prev, .int .i64 s.time, .int .i64 s.kind, .int .i64 s.a, .int .i64 s.b, .int .i64 s.c, .slice lo ln lc, .slice po pn pc, .string s.body, .int .i64 s.key, .string s.dig] 30)).alloc (.cells #[.slice none 0 0] 42) := ⟨_, rfl⟩
  have HEs : Hid (Ex w.heap.size none w ws) := by rw [hws]; exact ((Ex.new w _).alloc (by simp) _).alloc (by simp; omega) _
  have HBs : Hid (ws.heap[w.heap.size]? = some (.cells #[.slice ro n rc] 42 (0, 0)) ∧ ws.heap[w.heap.size + 1]? = some (.cells #[.int .i64 s.author, .int .i64 s.number, .string s.prev, .int .i64 s.time, .int .i64 s.kind, .int .i64 s.a, .int .i64 s.b, .int .i64 s.c, .slice lo ln lc, .slice po pn pc, .string s.body, .int .i64 s.key, .string s.dig] 30 (0, 0)) ∧ ws.heap[w.heap.size + 2]? = some (.cells #[.slice none 0 0] 42 (0, 0))) := by rw [hws]; exact three_boxes w _ _ _ _ _ _
  have hzs : ws.heap.size = w.heap.size + 3 := by rw [hws]; simp
  have HQS : Hid (∀ w', Ex ws.heap.size none ws w' → (w'.cell? ⟨w.heap.size + 1, 0, none⟩ = some (.int .i64 s.author) ∧ w'.cell? ⟨w.heap.size + 1, 1, none⟩ = some (.int .i64 s.number) ∧ w'.cell? ⟨w.heap.size + 1, 2, none⟩ = some (.string s.prev) ∧ w'.cell? ⟨w.heap.size + 1, 3, none⟩ = some (.int .i64 s.time) ∧ w'.cell? ⟨w.heap.size + 1, 4, none⟩ = some (.int .i64 s.kind) ∧ w'.cell? ⟨w.heap.size + 1, 5, none⟩ = some (.int .i64 s.a) ∧ w'.cell? ⟨w.heap.size + 1, 6, none⟩ = some (.int .i64 s.b) ∧ w'.cell? ⟨w.heap.size + 1, 7, none⟩ = some (.int .i64 s.c) ∧ w'.cell? ⟨w.heap.size + 1, 8, none⟩ = some (.slice lo ln lc) ∧ w'.cell? ⟨w.heap.size + 1, 9, none⟩ = some (.slice po pn pc) ∧ w'.cell? ⟨w.heap.size + 1, 10, none⟩ = some (.string s.body) ∧ w'.cell? ⟨w.heap.size + 1, 11, none⟩ = some (.int .i64 s.key) ∧ w'.cell? ⟨w.heap.size + 1, 12, none⟩ = some (.string s.dig)) ∧ w'.cell? ⟨w.heap.size, 0, none⟩ = some (.slice ro n rc) ∧ w'.cell? ⟨w.heap.size + 2, 0, none⟩ = some (.slice none 0 0) ∧ w'.frozen? ⟨w.heap.size, 0, none⟩ = false ∧ w'.frozen? ⟨w.heap.size + 2, 0, none⟩ = false) := Lib.hid (fun w' h => by
    have k0 := (h.block w.heap.size (by omega) (by simp)).trans HBs.out.1
    have k2 := (h.block (w.heap.size + 2) (by omega) (by simp)).trans HBs.out.2.2
    exact ⟨(st_block ((h.block (w.heap.size + 1) (by omega) (by simp)).trans HBs.out.2.1)).1, box_cell k0, box_cell k2, frozen_of_row _ _ _ _ _ k0, frozen_of_row _ _ _ _ _ k2⟩)
  rw [← hws]
  clear hws
  obtain ⟨⟨d0, d1, d2, d3, d4, d5, d6, d7, d8, d9, d10, d11, d12⟩, b0, b2, z0, z2⟩ := HQS.out _ (Ex.refl _ _ ws)
  by_cases r2 : checkI s = 0
  · have r2d : (checkI s != 0) = false := by simp [r2]
    have R2 := Lib.hid r2
    clear r2
    cases r3 : sealedB s with
    | false =>
      have HK : Hid (adds05 acc s = acc) := Lib.hid (by unfold adds05; rw [if_neg (fun h => by rw [r3] at h; cases h.2.1)])

      go_wp2_with (first
        | (go_at_call 56; refine (check03_any s lo po ln lc pn pc _ (HLS.out.keep fun b _ hb => (HEs.out.block b hb (by simp))) (by omega)).mono ?_; rintro e w7 ⟨rfl, hex7⟩; have HE7 : Hid (Ex ws.heap.size none ws w7) := Lib.hid hex7; have hz7 : ws.heap.size ≤ w7.heap.size := hex7.size; clear hex7 d0 d1 d2 d3 d4 d5 d6 d7 d8 d9 d10 d11 d12 b0 b2 z0 z2; obtain ⟨⟨d0, d1, d2, d3, d4, d5, d6, d7, d8, d9, d10, d11, d12⟩, b0, b2, z0, z2⟩ := HQS.out _ HE7.out)
        | (go_at_call 63; refine (sealed03_any s lo po ln lc pn pc _ (HLS.out.keep fun b _ hb => (HE7.out.block b (by omega) (by simp)).trans (HEs.out.block b hb (by simp))) HT.out).mono ?_; rintro e w8 ⟨rfl, hex8⟩; have HE8 : Hid (Ex ws.heap.size none ws w8) := Lib.hid (HE7.out.trans hex8 hz7 (by simp)); have hz8 : ws.heap.size ≤ w8.heap.size := HE8.out.size; clear hex8 d0 d1 d2 d3 d4 d5 d6 d7 d8 d9 d10 d11 d12 b0 b2 z0 z2; obtain ⟨⟨d0, d1, d2, d3, d4, d5, d6, d7, d8, d9, d10, d11, d12⟩, b0, b2, z0, z2⟩ := HQS.out _ HE8.out)
        | fail)
      refine bodyPost_ret (v := .agg #[.slice ro n rc]) (by simp [results, Try.results50, go_sem, b2]) rfl ?_
      exact ⟨_, _, by rw [HK.out, HAL.out], by rw [HK.out]; exact (HO.out.keep ((HEs.out.trans HE8.out (by omega) (by simp)).setCell _ _ _ (.inr (by omega))) (Nat.le_refl _)), (HEs.out.trans HE8.out (by omega) (by simp)).setCell _ _ _ (.inr (by omega))⟩
    | true =>
      obtain ⟨pl, hpl⟩ : ∃ pl, pl = put05 acc s := ⟨_, rfl⟩
      obtain ⟨k, hk⟩ : ∃ k, k = pl.length := ⟨_, rfl⟩
      have hkn : k ≤ n + 1 := by rw [hk, hpl, ← HAL.out]; exact put05_len acc s
      have HKL : Hid (pl.length = k) := Lib.hid hk.symm
      have HPC : Hid (∀ w', Ex ws.heap.size none ws w' → Calls Try.prog 64 #[.slice ro n rc, .agg #[.int .i64 s.author, .int .i64 s.number, .string s.prev, .int .i64 s.time, .int .i64 s.kind, .int .i64 s.a, .int .i64 s.b, .int .i64 s.c, .slice lo ln lc, .slice po pn pc, .string s.body, .int .i64 s.key, .string s.dig]] w' fun e w9 => ∃ ro' rc' b, e = .returned (.tuple #[.slice ro' k rc', .bool b]) ∧ OwnZ (w.heap.size + 2) base w9 ro' rc' pl ∧ Ex w'.heap.size none w' w9) := Lib.hid (fun w' h => by
        rw [hk, hpl, ← HAL.out]
        have h2 := HEs.out.trans h (by omega) (by simp)
        exact put05_any ro rc acc s lo po ln lc pn pc (w.heap.size + 2) base w' ((OwnZ.of HO.out (by omega)).keep (fun b _ _ hlt => h2.block b hlt (by simp))) (by have := h.size; omega) (HLS.out.keep fun b _ hb => h2.block b hb (by simp)) (by have := h2.size; omega) (by rw [HAL.out]; omega) HLA.out.light hm1)
      by_cases h1k : k ≤ 1000
      · have h1kI : (k : Int) ≤ 1000 := by omega
        have HK : Hid (adds05 acc s = pl) := Lib.hid (by unfold adds05; rw [if_pos ⟨R2.out, r3, by rw [← hpl, HKL.out]; exact h1k⟩, hpl])
        clear hpl hk
        go_wp2_with (first
          | (go_at_call 56; refine (check03_any s lo po ln lc pn pc _ (HLS.out.keep fun b _ hb => (HEs.out.block b hb (by simp))) (by omega)).mono ?_; rintro e w7 ⟨rfl, hex7⟩; have HE7 : Hid (Ex ws.heap.size none ws w7) := Lib.hid hex7; have hz7 : ws.heap.size ≤ w7.heap.size := hex7.size; clear hex7 d0 d1 d2 d3 d4 d5 d6 d7 d8 d9 d10 d11 d12 b0 b2 z0 z2; obtain ⟨⟨d0, d1, d2, d3, d4, d5, d6, d7, d8, d9, d10, d11, d12⟩, b0, b2, z0, z2⟩ := HQS.out _ HE7.out)
          | (go_at_call 63; refine (sealed03_any s lo po ln lc pn pc _ (HLS.out.keep fun b _ hb => (HE7.out.block b (by omega) (by simp)).trans (HEs.out.block b hb (by simp))) HT.out).mono ?_; rintro e w8 ⟨rfl, hex8⟩; have HE8 : Hid (Ex ws.heap.size none ws w8) := Lib.hid (HE7.out.trans hex8 hz7 (by simp)); have hz8 : ws.heap.size ≤ w8.heap.size := HE8.out.size; clear hex8 d0 d1 d2 d3 d4 d5 d6 d7 d8 d9 d10 d11 d12 b0 b2 z0 z2; obtain ⟨⟨d0, d1, d2, d3, d4, d5, d6, d7, d8, d9, d10, d11, d12⟩, b0, b2, z0, z2⟩ := HQS.out _ HE8.out)
          | (go_at_call 64; refine (HPC.out _ HE8.out).mono ?_; rintro e w9 ⟨r3, c3, b3, rfl, hown, hex9⟩; have H9 : Hid (OwnZ (w.heap.size + 2) base w9 r3 c3 pl ∧ Ex ws.heap.size none ws w9) := Lib.hid ⟨hown, HE8.out.trans hex9 hz8 (by simp)⟩; have hz9 : ws.heap.size ≤ w9.heap.size := H9.out.2.size; clear hown hex9 d0 d1 d2 d3 d4 d5 d6 d7 d8 d9 d10 d11 d12 b0 b2 z0 z2; obtain ⟨⟨d0, d1, d2, d3, d4, d5, d6, d7, d8, d9, d10, d11, d12⟩, b0, b2, z0, z2⟩ := HQS.out _ H9.out.2)
          | fail)
        refine bodyPost_ret (v := .agg #[.slice r3 k c3]) (by simp [results, Try.results50, go_sem, b2]) rfl ?_
        exact ⟨_, _, by rw [HK.out, HKL.out], by rw [HK.out]; exact (H9.out.1.keep (fun b _ hne _ => Below.heap_setCell _ _ _ _ hne)).s, (HEs.out.trans H9.out.2 (by omega) (by simp)).setCell _ _ _ (.inr (by omega))⟩
      · have h1kI : ¬ (k : Int) ≤ 1000 := by omega
        have HK : Hid (adds05 acc s = acc) := Lib.hid (by unfold adds05; rw [if_neg (fun h => h1k (by rw [← HKL.out, hpl]; exact h.2.2))])
        clear hpl hk
        go_wp2_with (first
          | (go_at_call 56; refine (check03_any s lo po ln lc pn pc _ (HLS.out.keep fun b _ hb => (HEs.out.block b hb (by simp))) (by omega)).mono ?_; rintro e w7 ⟨rfl, hex7⟩; have HE7 : Hid (Ex ws.heap.size none ws w7) := Lib.hid hex7; have hz7 : ws.heap.size ≤ w7.heap.size := hex7.size; clear hex7 d0 d1 d2 d3 d4 d5 d6 d7 d8 d9 d10 d11 d12 b0 b2 z0 z2; obtain ⟨⟨d0, d1, d2, d3, d4, d5, d6, d7, d8, d9, d10, d11, d12⟩, b0, b2, z0, z2⟩ := HQS.out _ HE7.out)
          | (go_at_call 63; refine (sealed03_any s lo po ln lc pn pc _ (HLS.out.keep fun b _ hb => (HE7.out.block b (by omega) (by simp)).trans (HEs.out.block b hb (by simp))) HT.out).mono ?_; rintro e w8 ⟨rfl, hex8⟩; have HE8 : Hid (Ex ws.heap.size none ws w8) := Lib.hid (HE7.out.trans hex8 hz7 (by simp)); have hz8 : ws.heap.size ≤ w8.heap.size := HE8.out.size; clear hex8 d0 d1 d2 d3 d4 d5 d6 d7 d8 d9 d10 d11 d12 b0 b2 z0 z2; obtain ⟨⟨d0, d1, d2, d3, d4, d5, d6, d7, d8, d9, d10, d11, d12⟩, b0, b2, z0, z2⟩ := HQS.out _ HE8.out)
          | (go_at_call 64; refine (HPC.out _ HE8.out).mono ?_; rintro e w9 ⟨r3, c3, b3, rfl, hown, hex9⟩; have H9 : Hid (OwnZ (w.heap.size + 2) base w9 r3 c3 pl ∧ Ex ws.heap.size none ws w9) := Lib.hid ⟨hown, HE8.out.trans hex9 hz8 (by simp)⟩; have hz9 : ws.heap.size ≤ w9.heap.size := H9.out.2.size; clear hown hex9 d0 d1 d2 d3 d4 d5 d6 d7 d8 d9 d10 d11 d12 b0 b2 z0 z2; obtain ⟨⟨d0, d1, d2, d3, d4, d5, d6, d7, d8, d9, d10, d11, d12⟩, b0, b2, z0, z2⟩ := HQS.out _ H9.out.2)
          | fail)
        refine bodyPost_ret (v := .agg #[.slice ro n rc]) (by simp [results, Try.results50, go_sem, b2]) rfl ?_
        exact ⟨_, _, by rw [HK.out, HAL.out], by rw [HK.out]; exact (HO.out.keep ((HEs.out.trans H9.out.2 (by omega) (by simp)).setCell _ _ _ (.inr (by omega))) (Nat.le_refl _)), (HEs.out.trans H9.out.2 (by omega) (by simp)).setCell _ _ _ (.inr (by omega))⟩
  · have r2d : (checkI s != 0) = true := by simp [r2]
    have HK : Hid (adds05 acc s = acc) := Lib.hid (by unfold adds05; rw [if_neg (fun h => r2 h.1)])
    clear r2
    go_wp2_with (first
      | (go_at_call 56; refine (check03_any s lo po ln lc pn pc _ (HLS.out.keep fun b _ hb => (HEs.out.block b hb (by simp))) (by omega)).mono ?_; rintro e w7 ⟨rfl, hex7⟩; have HE7 : Hid (Ex ws.heap.size none ws w7) := Lib.hid hex7; have hz7 : ws.heap.size ≤ w7.heap.size := hex7.size; clear hex7 d0 d1 d2 d3 d4 d5 d6 d7 d8 d9 d10 d11 d12 b0 b2 z0 z2; obtain ⟨⟨d0, d1, d2, d3, d4, d5, d6, d7, d8, d9, d10, d11, d12⟩, b0, b2, z0, z2⟩ := HQS.out _ HE7.out)
      | fail)
    refine bodyPost_ret (v := .agg #[.slice ro n rc]) (by simp [results, Try.results50, go_sem, b2]) rfl ?_
    exact ⟨_, _, by rw [HK.out, HAL.out], by rw [HK.out]; exact (HO.out.keep ((HEs.out.trans HE7.out (by omega) (by simp)).setCell _ _ _ (.inr (by omega))) (Nat.le_refl _)), (HEs.out.trans HE7.out (by omega) (by simp)).setCell _ _ _ (.inr (by omega))⟩
end Go.Proofs.Ytdmchekkcmjafaa

namespace Go.Proofs.Ytdmchekkcmjafaa
open Go.RowKit Go.Sort

def storeL (l : List St) : List St := l.foldl adds05 []
theorem storeL_snoc {l : List St} {k : Nat} {s : St} (h : l[k]? = some s) : storeL (l.take (k + 1)) = adds05 (storeL (l.take k)) s := by
  unfold storeL
  rw [List.take_add_one, h]
  simp [List.foldl_append]
theorem mem_addsFold {x : St} : ∀ (l acc : List St), x ∈ l.foldl adds05 acc → x ∈ acc ∨ x ∈ l := by
  intro l
  induction l with
  | nil => exact fun acc h => .inl h
  | cons s r ih =>
    intro acc h
    rcases ih _ h with h | h
    · rcases mem_adds05 h with h | h
      · exact .inl h
      · exact .inr (by simp [h])
    · exact .inr (by simp [h])
theorem mem_storeL {l : List St} {x : St} (h : x ∈ storeL l) : x ∈ l := by
  rcases mem_addsFold l [] h with h | h
  · cases h
  · exact h
theorem adds05_len1 (acc : List St) (s : St) : (adds05 acc s).length ≤ acc.length + 1 := by
  unfold adds05
  split
  · exact put05_len acc s
  · omega
theorem addsFold_len : ∀ (l acc : List St), (l.foldl adds05 acc).length ≤ acc.length + l.length := by
  intro l
  induction l with
  | nil => exact fun acc => by simp
  | cons s r ih => exact fun acc => by have h1 := ih (adds05 acc s); have h2 := adds05_len1 acc s; simp only [List.foldl_cons, List.length_cons]; omega
theorem storeL_len1 (l : List St) : (storeL l).length ≤ l.length := by have := addsFold_len l []; simpa [storeL] using this
theorem addsFold_len2 : ∀ (l acc : List St), acc.length ≤ 1000 → (l.foldl adds05 acc).length ≤ 1000 := by
  intro l
  induction l with
  | nil => exact fun acc h => h
  | cons s r ih => exact fun acc h => ih _ (adds05_len s h)
theorem storeL_len (l : List St) : (storeL l).length ≤ 1000 := addsFold_len2 l [] (by simp)

set_option maxHeartbeats 8000000 in
set_option maxRecDepth 100000 in
theorem storeOf_any {P : Nat → Prop} (v : Value) (l : List St) (w : World) (hv : Sl stRep P w v l) (hm : l.length ≤ 100000) (ht : TameL l) :
    Calls Try.prog 38 #[v] w fun e w' => ∃ (ro : Option Addr) (rc k : Nat), e = .returned (.agg #[.slice ro k rc]) ∧ k = (storeL l).length ∧ OwnS w' w.heap.size ro rc (storeL l) ∧ Ex w.heap.size none w w' := by
  obtain ⟨ao, cap, rfl, hx⟩ := hv
  have HX := Lib.hid hx
  have HT := Lib.hid ht
  clear hx ht
  go_enter Try.func38, Try.ntmps38
  go_upto_region 2 with (fail)
  obtain ⟨w0, hw0⟩ : ∃ w0 : World, w0 = (w.alloc (.cells #[.slice none 0 0] 42)).alloc (.cells #[.slice none 0 0] 42) := ⟨_, rfl⟩
  have HE0 : Hid (Ex w.heap.size none w w0) := by rw [hw0]; exact ex_two0 _ _
  have HB0 : Hid (w0.heap[w.heap.size]? = some (.cells #[.slice none 0 0] 42 (0, 0)) ∧ w0.heap[w.heap.size + 1]? = some (.cells #[.slice none 0 0] 42 (0, 0))) := by rw [hw0]; exact two_boxes w _ _ _
  have hz0 : w0.heap.size = w.heap.size + 2 := by rw [hw0]; simp
  rw [← hw0]
  clear hw0
  go_wp2
  go_loopw [4] (fun i wr => ∃ (k n : Nat) (ro : Option Addr) (rc : Nat) (acc : List St), i = .int .i64 k ∧ k ≤ l.length ∧ Hid (acc = storeL (l.take k) ∧ acc.length = n ∧ n ≤ 1000) ∧ Hid (wr.heap[w.heap.size]? = some (.cells #[.slice none 0 0] 42 (0, 0)) ∧ wr.heap[w.heap.size + 1]? = some (.cells #[.slice ro n rc] 42 (0, 0))) ∧ Hid (OwnS wr (w.heap.size + 2) ro rc acc) ∧ Hid (Ex w.heap.size none w wr) ∧ w.heap.size + 2 ≤ wr.heap.size) (fun i _ => l.length - (intOf i).toNat)
  case atStart => exact ⟨0, 0, none, 0, [], rfl, by omega, Lib.hid ⟨rfl, rfl, by omega⟩, HB0, Lib.hid (OwnS.nil _ _), HE0, by omega⟩
  case round =>
    obtain ⟨k, n, ro, rc, acc, rfl, hk, HA, HB, HO, HEX, hsz⟩ := hrel
    have b1 := box_cell HB.out.2
    have z1 := frozen_of_row _ _ 0 _ _ HB.out.2
    by_cases hlt : k < l.length
    · have hltI : (k : Int) < (l.length : Int) := by omega
      obtain ⟨b, off, s, ⟨lo, ln, lc⟩, ⟨po, pn, pc⟩, rfl, _, hls, hr, HXs⟩ := st_get (HX.out.keep (by decide) (fun b _ hb => HEX.out.block b hb (by simp))) k hlt
      have hc := st_at hr
      simp only [Sv.v] at hc
      obtain ⟨c0, c1, c2, c3, c4, c5, c6, c7, c8, c9, c10, c11, c12⟩ := hc
      obtain ⟨acc2, ha2⟩ : ∃ acc2, acc2 = adds05 acc s := ⟨_, rfl⟩
      obtain ⟨n2, hn2⟩ : ∃ n2, n2 = acc2.length := ⟨_, rfl⟩
      have HA2 : Hid (acc2 = storeL (l.take (k + 1)) ∧ acc2.length = n2 ∧ n2 ≤ 1000) := Lib.hid ⟨by rw [ha2, storeL_snoc HXs.out, ← HA.out.1], hn2.symm, by rw [hn2, ha2]; exact adds05_len s (by rw [HA.out.2.1]; exact HA.out.2.2)⟩
      have HTA : Hid (TameL acc) := Lib.hid (fun x hx => by
        rw [HA.out.1] at hx
        exact HT.out x (List.mem_of_mem_take (mem_storeL hx)))
      have HAC : Hid (∀ w', Ex wr.heap.size none wr w' → Calls Try.prog 50 #[.agg #[.slice ro n rc], .agg #[.int .i64 s.author, .int .i64 s.number, .string s.prev, .int .i64 s.time, .int .i64 s.kind, .int .i64 s.a, .int .i64 s.b, .int .i64 s.c, .slice lo ln lc, .slice po pn pc, .string s.body, .int .i64 s.key, .string s.dig]] w' fun e w3 => ∃ ro' rc', e = .returned (.agg #[.slice ro' n2 rc']) ∧ OwnS w3 (w.heap.size + 2) ro' rc' acc2 ∧ Ex w'.heap.size none w' w3) := Lib.hid (fun w' h => by
        rw [hn2, ha2, ← HA.out.2.1]
        exact adds05_any ro rc acc s lo po ln lc pn pc (w.heap.size + 2) w' (HO.out.keep h (Nat.le_refl _)) (hls.keep fun b _ hb => h.block b hb (by simp)) (by have := h.size; omega) (by rw [HA.out.2.1]; exact HA.out.2.2) HTA.out (HT.out.get HXs.out))
      clear ha2 hn2 hls hr
      go_upto_region 5 with (fail)
      go_region_with
        (first
          | (go_at_call 50
             (refine (HAC.out _ ((Ex.refl _ _ wr).drew)).mono ?_)
             rintro e w3 ⟨r3, q3, rfl, hown, hex3⟩
             (have H3 : Hid (OwnS w3 (w.heap.size + 2) r3 q3 acc2 ∧ Ex wr.heap.size none wr w3) := Lib.hid ⟨hown, (Ex.refl _ _ wr).drew.trans hex3 (Nat.le_refl _) (by simp)⟩)
             (have hz3 : wr.heap.size ≤ w3.heap.size := H3.out.2.size)
             (have HB3 : Hid (w3.heap[w.heap.size]? = some (.cells #[.slice none 0 0] 42 (0, 0)) ∧ w3.heap[w.heap.size + 1]? = some (.cells #[.slice ro n rc] 42 (0, 0))) := Lib.hid ⟨(H3.out.2.block _ (by omega) (by simp)).trans HB.out.1, (H3.out.2.block _ (by omega) (by simp)).trans HB.out.2⟩)
             clear hown hex3 c0 c1 c2 c3 c4 c5 c6 c7 c8 c9 c10 c11 c12 b1 z1
             have b1 := box_cell HB3.out.2
             have z1 := frozen_of_row _ _ 0 _ _ HB3.out.2)
          | fail)
      all_goals (
        obtain ⟨w4, hw4⟩ : ∃ w4 : World, w4 = w3.setCell ⟨w.heap.size + 1, 0, none⟩ (.slice r3 n2 q3) := ⟨_, rfl⟩
        have HB4 : Hid (w4.heap[w.heap.size]? = some (.cells #[.slice none 0 0] 42 (0, 0)) ∧ w4.heap[w.heap.size + 1]? = some (.cells #[.slice r3 n2 q3] 42 (0, 0))) := Lib.hid (by
          rw [hw4]
          exact ⟨set_far (by omega) HB3.out.1, by rw [heap_setCell_same _ _ _ _ _ _ HB3.out.2]; rfl⟩)
        have HO4 : Hid (OwnS w4 (w.heap.size + 2) r3 q3 acc2) := Lib.hid (by
          rw [hw4]
          exact H3.out.1.keepP (p := some (w.heap.size + 1)) ((Ex.refl _ _ _).setCell _ _ _ (.inl rfl)) (Nat.le_refl _) (fun q e => by cases e; omega))
        have HE4 : Hid (Ex w.heap.size none w w4) := Lib.hid (by
          rw [hw4]
          exact (HEX.out.trans H3.out.2 (by omega) (by simp)).setCell _ _ _ (.inr (by omega)))
        have hz4 : w.heap.size + 2 ≤ w4.heap.size := by rw [hw4]; simp; omega
        rw [← hw4]
        clear hw4 b1 z1
        go_wp2
        go_roundw
        case rel => exact ⟨k + 1, n2, r3, q3, acc2, by go_num, by omega, HA2, HB4, HO4, HE4, hz4⟩
        case measure => simp [intOf] <;> omega)
    · have hltI : ¬ (k : Int) < (l.length : Int) := by omega
      have hkl : k = l.length := by omega
      have HF : Hid (acc = storeL l) := Lib.hid (by rw [HA.out.1, hkl, List.take_length])
      have b0 := box_cell HB.out.1
      have z0 := frozen_of_row _ _ 0 _ _ HB.out.1
      clear hkl
      go_wp2
      refine bodyPost_ret (v := .agg #[.slice ro n rc]) (by simp [results, Try.results38, go_sem, b0]) rfl ?_
      exact ⟨ro, rc, n, rfl, by rw [← HF.out, HA.out.2.1], by rw [← HF.out]; exact (HO.out.keepP (B := wr.heap.size) (p := some w.heap.size) ((Ex.refl _ _ _).setCell _ _ _ (.inl rfl)) (Nat.le_refl _) (fun q e => by cases e; omega)).lower (by omega), HEX.out.setCell _ _ _ (.inr (Nat.le_refl _))⟩
end Go.Proofs.Ytdmchekkcmjafaa

namespace Go.Proofs.Ytdmchekkcmjafaa
open Go.RowKit Go.Sort

set_option maxHeartbeats 4000000 in
set_option maxRecDepth 100000 in
theorem storeD_w (N p most : Nat) (w : World) (hd : DiceOK N w p) (hN : N ≤ w.heap.size) (hm : most ≤ 10) :
    Calls Try.prog 21 #[.pointer (some ⟨p, 0, none⟩), .int .i64 most] w fun e w' => ∃ (ro : Option Addr) (rc k : Nat) (l : List St), e = .returned (.agg #[.slice ro k rc]) ∧ (k = l.length ∧ k ≤ 200) ∧ OwnS w' w.heap.size ro rc l ∧ ElL (fun x => 0 ≤ x ∧ x < 6) (11 + 20 * (most : Int)) l ∧ DiceOK N w' p ∧ Ex w.heap.size (some p) w w' := by
  have hp := hd.lt
  have HD0 := Lib.hid hd
  clear hd
  go_enter Try.func21, Try.ntmps21
  go_upto_region 1 with (fail)
  obtain ⟨w0, hw0⟩ : ∃ w0 : World, w0 = w.alloc (.cells #[.slice none 0 0] 42) := ⟨_, rfl⟩
  have HE0 : Hid (Ex w.heap.size none w w0) := by rw [hw0]; exact Ex.new _ _
  have HB0 : Hid (w0.heap[w.heap.size]? = some (.cells #[.slice none 0 0] 42 (0, 0))) := by rw [hw0]; exact heap_alloc_new w _
  have hz0 : w0.heap.size = w.heap.size + 1 := by rw [hw0]; simp
  rw [← hw0]
  clear hw0
  go_wp2_with (first
    | (go_at_call 39
       refine (next_w N p 5 w0 (HD0.out.keep HE0.out hN) (by omega) (by omega)).mono ?_
       rintro e w1 ⟨k0, rfl, hk0, hd, hex⟩
       have HD1 : Hid (DiceOK N w1 p ∧ Ex w0.heap.size (some p) w0 w1) := Lib.hid ⟨hd, hex⟩
       have hz1 : w0.heap.size ≤ w1.heap.size := hex.size
       have hw1 : IntKind.i64.wrap (1 + (k0 : Int)) = ((k0 + 1 : Nat) : Int) := by rw [show 1 + (k0 : Int) = ((k0 + 1 : Nat) : Int) by omega]; exact IntWalk.i64_in _ (by omega)
       clear hd hex)
    | (go_at_call 24
       refine (listsD_w N p (k0 + 1) most w1 HD1.out.1 (by omega) (by omega) hm).mono ?_
       rintro e w2 ⟨r2, c2, k2, l2, rfl, ⟨hk2, hk2m⟩, hown, hel, hd, hex2⟩
       have H2 : Hid (OwnS w2 w1.heap.size r2 c2 l2 ∧ ElL (fun x => 0 ≤ x ∧ x < 6) (11 + 20 * (most : Int)) l2 ∧ DiceOK N w2 p ∧ Ex w0.heap.size (some p) w0 w2 ∧ k2 = l2.length) := Lib.hid ⟨hown, hel.A fun x hx => by omega, hd, HD1.out.2.trans hex2 hz1 (fun q e _ => by cases e; rfl), hk2⟩
       have hz2 : w0.heap.size ≤ w2.heap.size := H2.out.2.2.2.1.size
       clear hown hel hd hex2 hk2)
    | (go_at_call 38
       refine (storeOf_any (.slice r2 k2 c2) l2 w2 (by have h := H2.out.1.sl; rw [← H2.out.2.2.2.2] at h; exact h) (by have := H2.out.2.2.2.2; omega) H2.out.2.1.tame).mono ?_
       rintro e w3 ⟨r3, c3, k3, rfl, hk3, hown, hex3⟩
       have hk3n : k3 ≤ 200 := by have := storeL_len1 l2; have := H2.out.2.2.2.2; omega
       have H3 : Hid (OwnS w3 w2.heap.size r3 c3 (storeL l2) ∧ k3 = (storeL l2).length ∧ DiceOK N w3 p ∧ Ex w0.heap.size (some p) w0 w3) := Lib.hid ⟨hown, hk3, H2.out.2.2.1.keep hex3 (by omega), H2.out.2.2.2.1.trans hex3 hz2 (by simp)⟩
       have HB3 : Hid (w3.heap[w.heap.size]? = some (.cells #[.slice none 0 0] 42 (0, 0))) := Lib.hid ((H3.out.2.2.2.block _ (by omega) (by simp; omega)).trans HB0.out)
       have hz3 : w0.heap.size ≤ w3.heap.size := H3.out.2.2.2.size
       have b0 := box_cell HB3.out
       have z0 := frozen_of_row _ _ 0 _ _ HB3.out
       clear hown hex3 hk3)
    | fail)
  refine bodyPost_ret (v := .agg #[.slice r3 k3 c3]) (by simp [results, Try.results21, go_sem, b0]) rfl ?_
  have HX : Hid (Ex w.heap.size (some p) w w3) := Lib.hid ((HE0.out.weaken _).trans H3.out.2.2.2 (by omega) (fun q e _ => by cases e; rfl))
  exact ⟨r3, c3, k3, storeL l2, rfl, ⟨H3.out.2.1, hk3n⟩, (H3.out.1.keepP (B := w3.heap.size) (p := some w.heap.size) ((Ex.refl _ _ _).setCell _ _ _ (.inl rfl)) (Nat.le_refl _) (fun q e => by cases e; omega)).lower (by omega), (fun s hs => H2.out.2.1 s (mem_storeL hs)), H3.out.2.2.1.keep (B := N) ((Ex.refl _ _ _).setCell _ _ _ (.inr hN)) (Nat.le_refl _), HX.out.setCell _ _ _ (.inr (Nat.le_refl _))⟩
end Go.Proofs.Ytdmchekkcmjafaa

namespace Go.Proofs.Ytdmchekkcmjafaa
open Go.RowKit Go.Sort

theorem store_5 (N p : Nat) (w : World) (hd : DiceOK N w p) (hN : N ≤ w.heap.size) :
    Calls Try.prog 21 #[.pointer (some ⟨p, 0, none⟩), .int .i64 5] w fun e w' => ∃ (ro : Option Addr) (rc k : Nat) (l : List St), e = .returned (.agg #[.slice ro k rc]) ∧ (k = l.length ∧ k ≤ 200) ∧ OwnS w' w.heap.size ro rc l ∧ ElL (fun x => 0 ≤ x ∧ x < 6) 111 l ∧ DiceOK N w' p ∧ Ex w.heap.size (some p) w w' :=
  storeD_w N p 5 w hd hN (by omega)
/-- A call that gives statements anew. -/
def Gives (f : Nat) (args : Array Value) (w : World) (k : Nat) (l : List St) : Prop := Calls Try.prog f args w fun e w' => ∃ r c, e = .returned (.slice r k c) ∧ SlAt stRep (fun _ => True) w' r l ∧ Ex w.heap.size none w w'
theorem sl_top {w : World} {P : Nat → Prop} {r : Option Addr} {k c : Nat} {l : List St} (h : Sl stRep P w (.slice r k c) l) : SlAt stRep (fun _ => True) w r l := h.at'.mono (by decide) (fun _ _ _ => trivial)
theorem same_lists (w : World) (r1 r2 : Option Addr) (n c1 c2 : Nat) (xs : List St) (h1 : SlAt stRep (fun _ => True) w r1 xs) (h2 : SlAt stRep (fun _ => True) w r2 xs) (hn : n = xs.length) (hm : n ≤ 100000) (hl : LightL 1000000 xs) :
    Calls Try.prog 10 #[.slice r1 n c1, .slice r2 n c2] w fun e w' => e = .returned (.bool true) ∧ Ex w.heap.size none w w' := by
  subst hn
  refine (sameList_any _ _ xs xs w ⟨r1, c1, rfl, h1⟩ ⟨r2, c2, rfl, h2⟩ (by omega) hl).mono ?_
  rintro e w' ⟨b, rfl, hb, hex⟩
  obtain rfl : b = true := hb.out.2 rfl
  exact ⟨rfl, hex⟩
theorem LightL.filter {m : Nat} {l : List St} (h : LightL m l) (p : St → Bool) : LightL m (l.filter p) := fun s hs => h s (List.mem_filter.1 hs).1
section
variable {P : Nat → Prop} (v : Value) (l : List St) (w : World) (hv : Sl stRep P w v l) (hm : l.length ≤ 100000) (hl : LightL 1000000 l)
include hv hm hl
theorem gives_until (t : Int) (k : Nat) (hk : k = (l.filter (fun s => decide (s.time ≤ t))).length) : Gives 11 #[v, .int .i64 t] w k (l.filter (fun s => decide (s.time ≤ t))) := by
  subst hk
  exact (until_any v l t w hv hm hl).mono fun e w' ⟨r, c, h1, h2, h3⟩ => ⟨r, c, h1, sl_top h2.sl, h3⟩
theorem gives_refUntil (t : Int) (k : Nat) (hk : k = (l.filter (fun s => decide (s.time ≤ t))).length) : Gives 12 #[v, .int .i64 t] w k (l.filter (fun s => decide (s.time ≤ t))) := by
  subst hk
  exact (refUntil_any v l t w hv hm hl).mono fun e w' ⟨r, c, h1, h2, h3⟩ => ⟨r, c, h1, sl_top h2.sl, h3⟩
theorem gives_window (t u : Int) (k : Nat) (hk : k = (l.filter (fun s => decide (t ≤ s.time) && decide (s.time ≤ u))).length) : Gives 13 #[v, .int .i64 t, .int .i64 u] w k (l.filter (fun s => decide (t ≤ s.time) && decide (s.time ≤ u))) := by
  subst hk
  exact (window_any v l t u w hv hm hl).mono fun e w' ⟨r, c, h1, h2, h3⟩ => ⟨r, c, h1, sl_top h2.sl, h3⟩
theorem gives_refWindow (t u : Int) (k : Nat) (hk : k = (l.filter (fun s => decide (t ≤ s.time) && decide (s.time ≤ u))).length) : Gives 14 #[v, .int .i64 t, .int .i64 u] w k (l.filter (fun s => decide (t ≤ s.time) && decide (s.time ≤ u))) := by
  subst hk
  exact (refWindow_any v l t u w hv hm hl).mono fun e w' ⟨r, c, h1, h2, h3⟩ => ⟨r, c, h1, sl_top h2.sl, h3⟩
theorem gives_order (k : Nat) (hk : k = l.length) : Gives 15 #[v] w k (orderI beforeB l) := by
  subst hk
  exact (order_any v l w hv hm hl).mono fun e w' ⟨r, c, h1, h2, h3⟩ => ⟨r, c, h1, sl_top h2, h3⟩
theorem gives_refOrder (k : Nat) (hk : k = l.length) : Gives 16 #[v] w k (orderI beforeB l) := by
  subst hk
  refine (refOrder_any v l w hv hm hl).mono fun e w' ⟨r, c, h1, h2, h3⟩ => ⟨r, c, h1, ?_, h3⟩
  have h4 := h2.sl
  exact sl_top h4
end

set_option maxHeartbeats 16000000 in
set_option maxRecDepth 100000 in
theorem epochMade_walk (v : Value) (L : List Int) (n0 : Int) (w : World) (hv : Ints w v L) (hm0 : L.length ≤ 9223372036854775807) :
    Calls Try.prog 4 #[v, .int .i64 n0] w fun e w' => e = .returned (.bool true) ∧ Below w.heap.size w w' := by
  obtain ⟨ao, cap, rfl, hx⟩ := hv
  have HX := Lib.hid hx
  clear hx
  by_cases hm : L.length ≤ 400
  · have hmI : (L.length : Int) ≤ 400 := by omega
    obtain ⟨z, hz⟩ : ∃ z, z = modI n0 60 := ⟨_, rfl⟩
    have hzb : 0 ≤ z ∧ z < 60 := by rw [hz]; exact modI_bd (by omega)
    have HZ := Lib.hid hz
    clear hz
    go_enter Try.func4, Try.ntmps4
    go_upto_region 5 with (first
      | (go_at_call 19; refine (madeLight_any _ _ _ _).mono ?_; rintro e w' ⟨rfl, rfl⟩)
      | (go_at_call 20
         refine (made_start (.slice ao L.length cap) L w ⟨ao, cap, rfl, HX.out⟩ (by omega)).mono ?_
         rintro e w1 ⟨p, rfl, ⟨hd, hp1, hp2⟩, hex⟩
         have HD1 : Hid (DiceOK (p + 1) w1 p ∧ Ex w.heap.size none w w1) := Lib.hid ⟨hd, hex⟩
         have hz1 : w.heap.size ≤ w1.heap.size := hex.size
         clear hd hex)
      | (go_at_call 21
         refine (store_5 (p + 1) p w1 HD1.out.1 hp2).mono ?_
         rintro e w2 ⟨r0, c0, k0, l0, rfl, ⟨hk0, hk02⟩, hown, hel, hd2, hex2⟩
         have H2 : Hid (OwnS w2 w1.heap.size r0 c0 l0 ∧ ElL (fun x => 0 ≤ x ∧ x < 6) 111 l0 ∧ k0 = l0.length ∧ Ex w.heap.size none w w2) := Lib.hid ⟨hown, hel, hk0, HD1.out.2.trans hex2 hz1 (fun q e h => by cases e; omega)⟩
         have hz2 : w.heap.size ≤ w2.heap.size := H2.out.2.2.2.size
         clear hown hel hd2 hex2 hk0)
      | fail)
    obtain ⟨w3, hw3⟩ : ∃ w3 : World, w3 = w2.alloc (.cells #[.slice r0 k0 c0] 42) := ⟨_, rfl⟩
    have HE3 : Hid (Ex w2.heap.size none w2 w3) := Lib.hid (by rw [hw3]; exact Ex.new w2 _)
    have b3 : w3.cell? ⟨w2.heap.size, 0, none⟩ = some (.slice r0 k0 c0) := by
      rw [hw3]
      exact box_cell (heap_alloc_new w2 _)
    have hz3 : w2.heap.size ≤ w3.heap.size := HE3.out.size
    rw [← hw3]
    clear hw3
    obtain ⟨l, hl⟩ : ∃ l, l = countedAll l0 64 := ⟨_, rfl⟩
    have HCC : Hid (Calls Try.prog 22 #[.agg #[.slice r0 k0 c0]] w3 fun e w' => ∃ (ro : Option Addr) (rc k : Nat), e = .returned (.slice ro k rc) ∧ k = l.length ∧ OwnS w' w3.heap.size ro rc l ∧ Ex w3.heap.size none w3 w') := Lib.hid (by
      rw [hl, H2.out.2.2.1]
      exact counted05_any r0 c0 l0 w3 (H2.out.1.keep HE3.out (Nat.le_refl _)).sl.at' (by have := H2.out.2.2.1; omega) H2.out.2.1.tame)
    have HEL : Hid (∀ s ∈ l, El 111 s) := Lib.hid (fun s hs => (H2.out.2.1 s (mem_countedAll (by rw [← hl]; exact hs))).2)
    have hl2 : l.length ≤ 12800 := by
      have h1 := countedAll_len l0 64
      have h2 := H2.out.2.2.1
      rw [hl]; omega
    have HLI : Hid (LightL 1000000 l) := Lib.hid (fun s hs => by have h := (HEL.out s hs).small.tame; exact ⟨by have := h.list; omega, by have := h.pins; omega⟩)
    obtain ⟨u, hu⟩ : ∃ u, u = l.filter (fun s => decide (s.time ≤ z)) := ⟨_, rfl⟩
    have HST : Hid (Steps u) := Lib.hid (by rw [hu, hl]; exact countedAll_steps l0 z 64)
    clear hl
    obtain ⟨x, hx⟩ : ∃ x, x = l.filter (fun s => decide (z ≤ s.time) && decide (s.time ≤ z + 9)) := ⟨_, rfl⟩
    obtain ⟨u1, hu1⟩ : ∃ u1, u1 = l.filter (fun s => decide (s.time ≤ z + 1)) := ⟨_, rfl⟩
    obtain ⟨x1, hx1⟩ : ∃ x1, x1 = l.filter (fun s => decide (z + 1 ≤ s.time) && decide (s.time ≤ 2147483648)) := ⟨_, rfl⟩
    obtain ⟨o, ho⟩ : ∃ o, o = orderI beforeB l := ⟨_, rfl⟩
    obtain ⟨ku, hku⟩ : ∃ ku, ku = u.length := ⟨_, rfl⟩
    obtain ⟨kx, hkx⟩ : ∃ kx, kx = x.length := ⟨_, rfl⟩
    obtain ⟨ku1, hku1⟩ : ∃ ku1, ku1 = u1.length := ⟨_, rfl⟩
    obtain ⟨kx1, hkx1⟩ : ∃ kx1, kx1 = x1.length := ⟨_, rfl⟩
    have hm1 : ku ≤ ku1 := by rw [hku, hku1, hu, hu1]; exact until_more z l
    have hm2 : ku + kx1 = l.length := by rw [hku, hkx1, hu, hx1]; exact until_rest z 2147483648 l (fun s hs => by have := (HEL.out s hs).time.2; omega)
    have hm3 : kx ≤ 12800 := by rw [hkx, hx]; exact Nat.le_trans (List.length_filter_le _ _) hl2
    have hm4 : ku1 ≤ 12800 := by rw [hku1, hu1]; exact Nat.le_trans (List.length_filter_le _ _) hl2
    have HLU : Hid (LightL 1000000 u) := Lib.hid (by rw [hu]; exact HLI.out.filter _)
    have HLX : Hid (LightL 1000000 x) := Lib.hid (by rw [hx]; exact HLI.out.filter _)
    have HLO : Hid (LightL 1000000 o) := Lib.hid (by rw [ho]; exact HLI.out.order)
    have HKO : Hid (o.length = l.length) := Lib.hid (by rw [ho, orderI_len])
    have HEU : Hid (∀ s ∈ u, El 111 s) := Lib.hid (fun s hs => HEL.out s (by rw [hu] at hs; exact (List.mem_filter.1 hs).1))
    have HUU := Lib.hid hu
    have HXX := Lib.hid hx
    have HU1 := Lib.hid hu1
    have HX1 := Lib.hid hx1
    have HOO := Lib.hid ho
    have HKU := Lib.hid hku
    have HKX := Lib.hid hkx
    have HKU1 := Lib.hid hku1
    have HKX1 := Lib.hid hkx1
    clear hu hx hu1 hx1 ho hku hkx hku1 hkx1
    have hw9 : IntKind.i64.wrap (z + 9) = z + 9 := IntWalk.i64_in _ (by omega)
    have hw1 : IntKind.i64.wrap (z + 1) = z + 1 := IntWalk.i64_in _ (by omega)
    go_upto_region 7 with (first
      | (go_at_call 22
         refine HCC.out.mono ?_
         rintro e w4 ⟨ro, rc, k, rfl, hk, hown, hex⟩
         have H4 : Hid (OwnS w4 w3.heap.size ro rc l ∧ k = l.length ∧ Ex w.heap.size none w w4) := Lib.hid ⟨hown, hk, (H2.out.2.2.2.trans HE3.out hz2 (by simp)).trans hex (by omega) (by simp)⟩
         have hz4 : w.heap.size ≤ w4.heap.size := H4.out.2.2.size
         clear hown hk hex b3)
      | (go_at_call 23; refine (mod_any _ _ _ (by omega)).mono ?_; rw [← HZ.out]; rintro e w' ⟨rfl, rfl⟩)
      | fail)
    have hkl : k = l.length := H4.out.2.1
    have hk2 : k ≤ 12800 := by omega
    have hsum : IntKind.i64.wrap ((ku : Int) + (kx1 : Int)) = (k : Int) := by rw [show (ku : Int) + (kx1 : Int) = (k : Int) by omega]; exact IntWalk.i64_in _ (by omega)
    have hmI1 : (ku : Int) ≤ (ku1 : Int) := by omega
    have hku2 : ku ≤ 12800 := by omega
    have HKL := Lib.hid hkl
    clear hkl hm2
    have HSL : Hid (∀ w', Ex w4.heap.size none w4 w' → Sl stRep (fun b => w3.heap.size ≤ b) w' (.slice ro k rc) l) := Lib.hid (fun w' h' => by
      have h := (H4.out.1.keep h' (Nat.le_refl _)).sl
      rw [← HKL.out] at h
      exact h)
    have hl3 : l.length ≤ 100000 := by omega
    have HGU : Hid (∀ w', Ex w4.heap.size none w4 w' → Gives 11 #[.slice ro k rc, .int .i64 z] w' ku u) := Lib.hid (fun w' h => by rw [HUU.out]; exact gives_until _ l w' (HSL.out w' h) hl3 HLI.out z ku (by rw [HKU.out, HUU.out]))
    have HGR : Hid (∀ w', Ex w4.heap.size none w4 w' → Gives 12 #[.slice ro k rc, .int .i64 z] w' ku u) := Lib.hid (fun w' h => by rw [HUU.out]; exact gives_refUntil _ l w' (HSL.out w' h) hl3 HLI.out z ku (by rw [HKU.out, HUU.out]))
    have HGO : Hid (∀ w', Ex w4.heap.size none w4 w' → Gives 15 #[.slice ro k rc] w' k o) := Lib.hid (fun w' h => by rw [HOO.out]; exact gives_order _ l w' (HSL.out w' h) hl3 HLI.out k HKL.out)
    have HGP : Hid (∀ w', Ex w4.heap.size none w4 w' → Gives 16 #[.slice ro k rc] w' k o) := Lib.hid (fun w' h => by rw [HOO.out]; exact gives_refOrder _ l w' (HSL.out w' h) hl3 HLI.out k HKL.out)
    have HGW : Hid (∀ w', Ex w4.heap.size none w4 w' → Gives 13 #[.slice ro k rc, .int .i64 z, .int .i64 (z + 9)] w' kx x) := Lib.hid (fun w' h => by rw [HXX.out]; exact gives_window _ l w' (HSL.out w' h) hl3 HLI.out z (z + 9) kx (by rw [HKX.out, HXX.out]))
    have HGX : Hid (∀ w', Ex w4.heap.size none w4 w' → Gives 14 #[.slice ro k rc, .int .i64 z, .int .i64 (z + 9)] w' kx x) := Lib.hid (fun w' h => by rw [HXX.out]; exact gives_refWindow _ l w' (HSL.out w' h) hl3 HLI.out z (z + 9) kx (by rw [HKX.out, HXX.out]))
    have HGV : Hid (∀ w', Ex w4.heap.size none w4 w' → Gives 11 #[.slice ro k rc, .int .i64 (z + 1)] w' ku1 u1) := Lib.hid (fun w' h => by rw [HU1.out]; exact gives_until _ l w' (HSL.out w' h) hl3 HLI.out (z + 1) ku1 (by rw [HKU1.out, HU1.out]))
    have HGY : Hid (∀ w', Ex w4.heap.size none w4 w' → Gives 13 #[.slice ro k rc, .int .i64 (z + 1), .int .i64 2147483648] w' kx1 x1) := Lib.hid (fun w' h => by rw [HX1.out]; exact gives_window _ l w' (HSL.out w' h) hl3 HLI.out (z + 1) 2147483648 kx1 (by rw [HKX1.out, HX1.out]))
    have HSK : ∀ (w5 w6 : World) (r : Option Addr) (xs : List St), SlAt stRep (fun _ => True) w5 r xs → Ex w5.heap.size none w5 w6 → SlAt stRep (fun _ => True) w6 r xs := fun w5 w6 r xs h hx => h.keep (by decide) (fun b _ hb => hx.block b hb (by simp))
    have HSK := Lib.hid HSK
    clear hl3
    go_upto_region 10 with (first
      | (go_at_call 11
         refine (HGU.out _ H13.out).mono ?_
         rintro e w14 ⟨r14, c14, rfl, hs, hex⟩
         have H14 : Hid (SlAt stRep (fun _ => True) w14 r14 u ∧ Ex w4.heap.size none w4 w14) := Lib.hid ⟨hs, H13.out.trans hex hz13 (by simp)⟩
         have hz14 : w4.heap.size ≤ w14.heap.size := H14.out.2.size
         clear hs hex)
      | (go_at_call 11
         refine (HGU.out _ (Ex.refl _ _ w4)).mono ?_
         rintro e w5 ⟨r5, c5, rfl, hs, hex⟩
         have H5 : Hid (SlAt stRep (fun _ => True) w5 r5 u ∧ Ex w4.heap.size none w4 w5) := Lib.hid ⟨hs, hex⟩
         have hz5 : w4.heap.size ≤ w5.heap.size := H5.out.2.size
         clear hs hex)
      | (go_at_call 12
         refine (HGR.out _ H5.out.2).mono ?_
         rintro e w6 ⟨r6, c6, rfl, hs, hex⟩
         have H6 : Hid (SlAt stRep (fun _ => True) w6 r5 u ∧ SlAt stRep (fun _ => True) w6 r6 u ∧ Ex w4.heap.size none w4 w6) := Lib.hid ⟨HSK.out _ _ _ _ H5.out.1 hex, hs, H5.out.2.trans hex hz5 (by simp)⟩
         have hz6 : w4.heap.size ≤ w6.heap.size := H6.out.2.2.size
         clear hs hex)
      | (go_at_call 10
         refine (same_lists w12 r11 r12 kx c11 c12 x H12.out.1 H12.out.2.1 HKX.out (by omega) HLX.out).mono ?_
         rintro e w13 ⟨rfl, hex⟩
         have H13 : Hid (Ex w4.heap.size none w4 w13) := Lib.hid (H12.out.2.2.trans hex hz12 (by simp))
         have hz13 : w4.heap.size ≤ w13.heap.size := H13.out.size
         clear hex)
      | (go_at_call 10
         refine (same_lists w9 r8 r9 k c8 c9 o H9.out.1 H9.out.2.1 (by rw [HKO.out]; exact HKL.out) (by omega) HLO.out).mono ?_
         rintro e w10 ⟨rfl, hex⟩
         have H10 : Hid (Ex w4.heap.size none w4 w10) := Lib.hid (H9.out.2.2.trans hex hz9 (by simp))
         have hz10 : w4.heap.size ≤ w10.heap.size := H10.out.size
         clear hex)
      | (go_at_call 10
         refine (same_lists w6 r5 r6 ku c5 c6 u H6.out.1 H6.out.2.1 HKU.out (by omega) HLU.out).mono ?_
         rintro e w7 ⟨rfl, hex⟩
         have H7 : Hid (Ex w4.heap.size none w4 w7) := Lib.hid (H6.out.2.2.trans hex hz6 (by simp))
         have hz7 : w4.heap.size ≤ w7.heap.size := H7.out.size
         clear hex)
      | (go_at_call 15
         refine (HGO.out _ H7.out).mono ?_
         rintro e w8 ⟨r8, c8, rfl, hs, hex⟩
         have H8 : Hid (SlAt stRep (fun _ => True) w8 r8 o ∧ Ex w4.heap.size none w4 w8) := Lib.hid ⟨hs, H7.out.trans hex hz7 (by simp)⟩
         have hz8 : w4.heap.size ≤ w8.heap.size := H8.out.2.size
         clear hs hex)
      | (go_at_call 16
         refine (HGP.out _ H8.out.2).mono ?_
         rintro e w9 ⟨r9, c9, rfl, hs, hex⟩
         have H9 : Hid (SlAt stRep (fun _ => True) w9 r8 o ∧ SlAt stRep (fun _ => True) w9 r9 o ∧ Ex w4.heap.size none w4 w9) := Lib.hid ⟨HSK.out _ _ _ _ H8.out.1 hex, hs, H8.out.2.trans hex hz8 (by simp)⟩
         have hz9 : w4.heap.size ≤ w9.heap.size := H9.out.2.2.size
         clear hs hex)
      | (go_at_call 13
         refine (HGW.out _ H10.out).mono ?_
         rintro e w11 ⟨r11, c11, rfl, hs, hex⟩
         have H11 : Hid (SlAt stRep (fun _ => True) w11 r11 x ∧ Ex w4.heap.size none w4 w11) := Lib.hid ⟨hs, H10.out.trans hex hz10 (by simp)⟩
         have hz11 : w4.heap.size ≤ w11.heap.size := H11.out.2.size
         clear hs hex)
      | (go_at_call 14
         refine (HGX.out _ H11.out.2).mono ?_
         rintro e w12 ⟨r12, c12, rfl, hs, hex⟩
         have H12 : Hid (SlAt stRep (fun _ => True) w12 r11 x ∧ SlAt stRep (fun _ => True) w12 r12 x ∧ Ex w4.heap.size none w4 w12) := Lib.hid ⟨HSK.out _ _ _ _ H11.out.1 hex, hs, H11.out.2.trans hex hz11 (by simp)⟩
         have hz12 : w4.heap.size ≤ w12.heap.size := H12.out.2.2.size
         clear hs hex)
      | fail)
    go_wp2_with fail
    clear hw9
    go_loopw [10] (fun i wr => ∃ j : Nat, i = .int .i64 j ∧ j ≤ ku ∧ Ex w14.heap.size none w14 wr) (fun i _ => ku - (intOf i).toNat)
    case atStart => exact ⟨0, rfl, by omega, Ex.refl _ _ _⟩
    case round =>
      obtain ⟨j, rfl, hj, hex⟩ := hrel
      have hsz := hex.size
      by_cases hjk : j < ku
      · have hjI : (j : Int) < (ku : Int) := by omega
        have HSU : Hid (SlAt stRep (fun _ => True) wr r14 u) := Lib.hid (HSK.out _ _ _ _ H14.out.1 hex)
        obtain ⟨b, off, s, ls, ps, hro, _, _, hrs, HS⟩ := st_get HSU.out j (by rw [← HKU.out]; exact hjk)
        have HES : Hid (El 111 s) := Lib.hid (HEU.out s (List.mem_of_getElem? HS.out))
        have hnum := HES.out.number
        have hq1 := fun p0 : ExW wr => ExW.st_at hrs p0
        simp only [Sv.v] at hq1
        by_cases h0 : 0 < s.number
        · have hd0 : decide (0 < s.number) = true := decide_eq_true h0
          obtain ⟨i, t, hij, hti, hta, htn⟩ := HST.out j s HS.out h0
          obtain ⟨b', off', t', lt, pt, hro', _, _, hrt, HT⟩ := st_get HSU.out i (by rw [← HKU.out]; omega)
          have htt : t' = t := Option.some.inj (HT.out.symm.trans hti)
          subst htt
          obtain ⟨rfl, rfl⟩ : b = b' ∧ off = off' := by rw [hro] at hro'; cases hro'; exact ⟨rfl, rfl⟩
          have hq2 := fun p0 : ExW wr => ExW.st_at hrt p0
          simp only [Sv.v] at hq2
          have hwi : IntKind.i64.wrap ((j : Int) - 1) = (i : Int) := by rw [show (j : Int) - 1 = i by omega]; exact IntWalk.i64_in _ (by omega)
          have hwn : IntKind.i64.wrap (s.number - 1) = t'.number := by rw [show s.number - 1 = t'.number by omega]; exact IntWalk.i64_in _ (by omega)
          have hj0 : ((j : Int) == 0) = false := by simp; omega
          have hj0n : (j == 0) = false := by simp; omega
          have he1 : (t'.author != s.author) = false := by simp [hta]
          have hiI : (i : Int) < (ku : Int) := by omega
          clear hro' hrs hrt hti hta htn h0 hij
          subst hro
          go_wp2_with fail
          refine wp_region_quiet_ex (by kernel_rfl) (by kernel_rfl) ?_
          repeat (go_big_quiet_step ((fail)))
          refine wpQuiet_nil ?_
          intro _ hw'
          obtain ⟨p9, hw''⟩ := hw'
          subst hw''
          clear hq1 hq2
          go_wp2
          go_roundw
          case rel => exact ⟨j + 1, by go_num, by omega, hex.trans p9.ex hsz (by simp)⟩
          case measure => simp [intOf] <;> omega
        · have hd0 : decide (0 < s.number) = false := decide_eq_false h0
          clear hrs h0
          subst hro
          go_wp2_with fail
          refine wp_region_quiet_ex (by kernel_rfl) (by kernel_rfl) ?_
          repeat (go_big_quiet_step ((fail)))
          refine wpQuiet_nil ?_
          intro _ hw'
          obtain ⟨p9, hw''⟩ := hw'
          subst hw''
          clear hq1
          go_wp2
          go_roundw
          case rel => exact ⟨j + 1, by go_num, by omega, hex.trans p9.ex hsz (by simp)⟩
          case measure => simp [intOf] <;> omega
      · have hjI : ¬ (j : Int) < (ku : Int) := by omega
        have HE9 : Hid (Ex w4.heap.size none w4 wr) := Lib.hid (H14.out.2.trans hex hz14 (by simp))
        have hz9' : w4.heap.size ≤ wr.heap.size := HE9.out.size
        clear hex hjk
        go_wp2_with (first
          | (go_at_call 7
             refine (awake09_any _).mono ?_
             rintro e w15 ⟨rfl, hex5⟩
             have H15 : Hid (Ex w4.heap.size none w4 w15) := Lib.hid (HE9.out.trans hex5 hz9' (by simp))
             have hz15 : w4.heap.size ≤ w15.heap.size := H15.out.size
             clear hex5)
          | (go_at_call 11
             refine (HGV.out _ H15.out).mono ?_
             rintro e w16 ⟨r16, c16, rfl, hs, hex⟩
             have H16 : Hid (Ex w4.heap.size none w4 w16) := Lib.hid (H15.out.trans hex hz15 (by simp))
             have hz16 : w4.heap.size ≤ w16.heap.size := H16.out.size
             clear hs hex)
          | (go_at_call 13
             refine (HGY.out _ H16.out).mono ?_
             rintro e w17 ⟨r17, c17, rfl, hs, hex⟩
             have H17 : Hid (Ex w4.heap.size none w4 w17) := Lib.hid (H16.out.trans hex hz16 (by simp))
             clear hs hex)
          | fail)
        go_ret
        exact ⟨rfl, (H4.out.2.2.trans H17.out hz4 (by simp)).below⟩
  · have hmI : ¬ (L.length : Int) ≤ 400 := by omega
    have hmd : decide ((L.length : Int) ≤ 400) = false := decide_eq_false hmI
    clear hmI
    go_enter Try.func4, Try.ntmps4
    go_wp2_with (first
      | (go_at_call 19; refine (madeLight_any _ _ _ _).mono ?_; rintro e w' ⟨rfl, rfl⟩)
      | (go_at_call 7; refine (awake09_any _).mono ?_; rintro e w1 ⟨rfl, hex⟩))
    go_ret
    exact ⟨rfl, hex.below⟩
end Go.Proofs.Ytdmchekkcmjafaa

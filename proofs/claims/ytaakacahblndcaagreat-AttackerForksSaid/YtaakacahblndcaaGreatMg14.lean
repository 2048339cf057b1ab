/- ref05.Valid, ref08.Valid, sync.Valid at valid stores. No statement of the seat. | ref36.right at right statements. No statement of the seat. | attacker.Keep and attacker.Give at valid peers. No statement of the seat. | attacker.row and attacker.Base at valid peers whose row is known. No statement of the seat. | attacker.Write at valid peers whose row is known, for drafts without lists. No statement of the seat. -/
import Derived.Test.YtaakacahblndcaaGreatMg10
import Derived.Test.YtaakacahblndcaaGreatMg03
import Derived.Test.YtaakacahblndcaaGreatChk03G
import Derived.Test.YtaakacahblndcaaGreatSeal03G
import Derived.Test.YtaakacahblndcaaGreatMg07
import Derived.Test.YtaakacahblndcaaGreatMg11
import Derived.Test.YtaakacahblndcaaGreatMg12
import Derived.Test.YtaakacahblndcaaGreatMg09
import Derived.Deep.Cut
import Derived.Deep.CutRange
import Derived.Laws.ResultCell
namespace Go.Proofs.YtaakacahblndcaaGreat
open Go.RowKit Go.Sort
attribute [local go_sem ↓] rowLoad_stv rowStore_stv

theorem check03_v {P : Nat → Prop} (x : St × Sv × Sv) (w : World) (h : Lies P w x) (hm : x.1.list.length ≤ 9223372036854775807 ∧ x.1.pins.length ≤ 9223372036854775807) :
    Calls Tryz.prog 86 #[stV x] w fun e w' => e = .returned (.int .i64 (checkI x.1)) ∧ Ex w.heap.size none w w' := by
  obtain ⟨s, ⟨lo, ln, lc⟩, ⟨po, pn, pc⟩⟩ := x
  exact check03_any s lo po ln lc pn pc w h hm
theorem sealed03_v {P : Nat → Prop} (x : St × Sv × Sv) (w : World) (h : Lies P w x) (ht : Tame x.1) :
    Calls Tryz.prog 12 #[stV x] w fun e w' => e = .returned (.bool (sealedB x.1)) ∧ Ex w.heap.size none w w' := by
  obtain ⟨s, ⟨lo, ln, lc⟩, ⟨po, pn, pc⟩⟩ := x
  exact sealed03_any s lo po ln lc pn pc w h ht
theorem before05_v (x y : St × Sv × Sv) (w : World) : Calls Tryz.prog 95 #[stV x, stV y] w fun e w' => e = .returned (.bool (before05B x.1 y.1)) ∧ Ex w.heap.size none w w' := before05_any x y w
theorem before05_ltA {s t : St} (h : ltA s t = true) : before05B s t = true := by
  unfold ltA ltNDs lssS at h
  unfold before05B
  simp only [Bool.or_eq_true, Bool.and_eq_true, decide_eq_true_eq] at h
  rcases h with h | ⟨h, h' | ⟨h', h''⟩⟩
  · rw [if_neg (by omega)]; exact decide_eq_true h
  · rw [if_pos h, if_neg (by omega)]; exact decide_eq_true h'
  · rw [if_pos h, if_pos h']; exact h''

set_option maxHeartbeats 4000000 in
set_option maxRecDepth 100000 in
theorem valid05_yes {P : Nat → Prop} (v : Value) (l : List St) (w : World) (hv : Sl stRep P w v l) (hvl : validB l = true) :
    Calls Tryz.prog 47 #[.agg #[v]] w fun e w' => e = .returned (.bool true) ∧ Ex w.heap.size none w w' := by
  obtain ⟨ao, cap, rfl, hx⟩ := hv
  obtain ⟨w0, hw0⟩ : ∃ w0 : World, w0 = w.alloc (.cells #[.slice ao l.length cap] 29) := ⟨_, rfl⟩
  have hz0 : w0.heap.size = w.heap.size + 1 := by rw [hw0]; simp
  have HE0 : Hid (Ex w.heap.size none w w0) := Lib.hid (by rw [hw0]; exact Ex.new w _)
  have HC0 : Hid (∀ w', Ex w0.heap.size none w0 w' → w'.cell? ⟨w.heap.size, 0, none⟩ = some (.slice ao l.length cap)) := Lib.hid (fun w' h => by
    rw [cell_of_row _ _ _ _ _ _ ((h.block w.heap.size (by omega) (by simp)).trans (by rw [hw0]; exact heap_alloc_new w _))]; rfl)
  have HX : Hid (∀ w', Ex w.heap.size none w w' → SlAt stRep P w' ao l) := Lib.hid (fun w' h => hx.keep (by decide) fun b _ hb => h.block b hb (by simp))
  have HVL := Lib.hid hvl
  have hbig := validB_len hvl
  clear hx hvl
  go_enter Tryz.func47, Tryz.ntmps47
  go_upto_region 2 with (fail)
  rw [← hw0]
  clear hw0
  go_loopw [3] (fun i wr => ∃ k : Nat, k ≤ l.length ∧ i = .int .i64 k ∧ Ex w0.heap.size none w0 wr) (fun i _ => l.length - (intOf i).toNat)
  case atStart => exact ⟨0, by omega, rfl, Ex.refl _ _ _⟩
  case round =>
    obtain ⟨k, hk, rfl, hex0⟩ := hrel
    have hsz0 := hex0.size
    have HE0W := Lib.hid hex0
    have HEX : Hid (Ex w.heap.size none w wr) := Lib.hid (HE0.out.trans hex0 (by omega) (by simp))
    have hsz : w.heap.size ≤ wr.heap.size := by omega
    have r0 := HC0.out _ HE0W.out
    clear hex0
    by_cases hlt : k < l.length
    · have hltI : (k : Int) < (l.length : Int) := by omega
      obtain ⟨b, off, x, hao, hPb, hbl, HXs, hls0, HLD⟩ := stv_get (HX.out wr HEX.out) k hlt
      have HAO := Lib.hid hao
      subst hao
      have HXC := Lib.hid (validB_mem HVL.out x.1 (List.mem_of_getElem? HXs.out))
      have HTM := Lib.hid (checkI_tame HXC.out.1)
      have HLG : Hid (x.1.list.length ≤ 9223372036854775807 ∧ x.1.pins.length ≤ 9223372036854775807) := Lib.hid (by have h1 := HTM.out.list; have h2 := HTM.out.pins; omega)
      have HLS : Hid (∀ w', Ex wr.heap.size none wr w' → Lies P w' x) := Lib.hid (fun w' h => hls0.keep fun b _ hb => h.block b (by omega) (by simp))
      have HCK : Hid (∀ w', Ex wr.heap.size none wr w' → Calls Tryz.prog 86 #[stV x] w' fun e w'' => e = .returned (.int .i64 0) ∧ Ex w'.heap.size none w' w'') := Lib.hid (fun w' h => by have := check03_v x w' (HLS.out w' h) HLG.out; rw [HXC.out.1] at this; exact this)
      have HSL : Hid (∀ w', Ex wr.heap.size none wr w' → Calls Tryz.prog 12 #[stV x] w' fun e w'' => e = .returned (.bool true) ∧ Ex w'.heap.size none w' w'') := Lib.hid (fun w' h => asB (sealed03_v x w' (HLS.out w' h) HTM.out) HXC.out.2)
      clear hls0
      go_upto_region 4 with (fail)
      by_cases hk0 : 0 < k
      case neg =>
        have k3 : decide (0 < (k : Int)) = false := decide_eq_false (by omega)
        have k4 : decide (0 < k) = false := decide_eq_false (by omega)
        have HQ : Hid (∀ w', Ex wr.heap.size none wr w' → (rowLoad 37 ⟨b, off + k * 13, none⟩).run Tryz.prog w' = .ok (stV x) w' ∧ w'.cell? ⟨w.heap.size, 0, none⟩ = some (.slice (some ⟨b, off, none⟩) l.length cap)) := Lib.hid (fun w' h => ⟨HLD.out w' (h.block b hbl (by simp)), HC0.out w' (HE0W.out.trans h hsz0 (by simp))⟩)
        clear hk0 r0
        have hq := fun p0 : ExW wr => HQ.out p0.w' p0.ex
        refine wp_region_quiet_ex (by kernel_rfl) (by kernel_rfl) ?_
        repeat (go_big_quiet_step (first | (go_at_call 86; refine calls_ex_of (HCK.out _ (ExW.ex _))) | (go_at_call 12; refine calls_ex_of (HSL.out _ (ExW.ex _)))))
        refine wpQuiet_nil ?_
        intro _ hw'
        obtain ⟨p9, hw''⟩ := hw'
        subst hw''
        have HE9 : Hid (Ex wr.heap.size none wr p9.w') := Lib.hid p9.ex
        clear hq
        go_wp2
        go_roundw
        case rel => exact ⟨k + 1, by omega, by go_num, HE0W.out.trans HE9.out hsz0 (by simp)⟩
        case measure => simp [intOf] <;> omega
      have k3 : decide (0 < (k : Int)) = true := decide_eq_true (by omega)
      have k4 : decide (0 < k) = true := decide_eq_true (by omega)
      obtain ⟨m, rfl⟩ : ∃ m, k = m + 1 := ⟨k - 1, by omega⟩
      obtain ⟨b', off', y, hao', _, _, HYs, _, HLDy⟩ := stv_get (HX.out wr HEX.out) m (by omega)
      cases hao'
      have HQ : Hid (∀ w', Ex wr.heap.size none wr w' → (rowLoad 37 ⟨b, off + (m + 1) * 13, none⟩).run Tryz.prog w' = .ok (stV x) w' ∧ w'.cell? ⟨w.heap.size, 0, none⟩ = some (.slice (some ⟨b, off, none⟩) l.length cap) ∧ (rowLoad 37 ⟨b, off + m * 13, none⟩).run Tryz.prog w' = .ok (stV y) w') := Lib.hid (fun w' h => ⟨HLD.out w' (h.block b hbl (by simp)), HC0.out w' (HE0W.out.trans h hsz0 (by simp)), HLDy.out w' (h.block b hbl (by simp))⟩)
      have HBF : Hid (∀ w', Calls Tryz.prog 95 #[stV y, stV x] w' fun e w'' => e = .returned (.bool true) ∧ Ex w'.heap.size none w' w'') := Lib.hid (fun w' => asB (before05_v y x w') (before05_ltA (validB_next HVL.out m y.1 x.1 HYs.out HXs.out)))
      have i1 : ((m + 1 : Nat) : Int) - 1 = (m : Int) := by omega
      have i2 : (m : Int) < (l.length : Int) := by omega
      clear r0
      have hq := fun p0 : ExW wr => HQ.out p0.w' p0.ex
      refine wp_region_quiet_ex (by kernel_rfl) (by kernel_rfl) ?_
      repeat (go_big_quiet_step (first | (go_at_call 86; refine calls_ex_of (HCK.out _ (ExW.ex _))) | (go_at_call 12; refine calls_ex_of (HSL.out _ (ExW.ex _))) | (go_at_call 95; refine calls_ex_of (HBF.out _))))
      refine wpQuiet_nil ?_
      intro _ hw'
      obtain ⟨p9, hw''⟩ := hw'
      subst hw''
      have HE9 : Hid (Ex wr.heap.size none wr p9.w') := Lib.hid p9.ex
      clear hq
      go_wp2
      go_roundw
      case rel => exact ⟨m + 1 + 1, by omega, by go_num, HE0W.out.trans HE9.out hsz0 (by simp)⟩
      case measure => simp [intOf] <;> omega
    · obtain rfl : k = l.length := by omega
      have hbI : (l.length : Int) ≤ 1000 := by omega
      go_wp2
      go_ret
      exact ⟨rfl, HEX.out⟩

set_option maxHeartbeats 4000000 in
set_option maxRecDepth 100000 in
theorem valid08_yes {P : Nat → Prop} (me : Int) (v : Value) (l : List St) (w : World) (hme : 0 ≤ me ∧ me < 64) (hv : Sl stRep P w v l) (hvl : validB l = true) :
    Calls Tryz.prog 18 #[.agg #[.int .i64 me, v]] w fun e w' => e = .returned (.bool true) ∧ Ex w.heap.size none w w' := by
  obtain ⟨ao, cap, rfl, hx⟩ := hv
  obtain ⟨w0, hw0⟩ : ∃ w0 : World, w0 = w.alloc (.cells #[.int .i64 me, .slice ao l.length cap] 31) := ⟨_, rfl⟩
  have HE0 : Hid (Ex w.heap.size none w w0) := Lib.hid (by rw [hw0]; exact Ex.new w _)
  have HB0 : Hid (w0.heap[w.heap.size]? = some (.cells #[.int .i64 me, .slice ao l.length cap] 31 (0, 0))) := Lib.hid (by rw [hw0]; exact heap_alloc_new w _)
  have c0 : w0.cell? ⟨w.heap.size, 0, none⟩ = some (.int .i64 me) := by rw [cell_of_row _ _ _ _ _ _ HB0.out]; rfl
  have c1 : w0.cell? ⟨w.heap.size, 1, none⟩ = some (.slice ao l.length cap) := by rw [cell_of_row _ _ _ _ _ _ HB0.out]; rfl
  have HVL := Lib.hid hvl
  have HX := Lib.hid hx
  obtain ⟨h1, h2⟩ := hme
  clear hvl hx
  go_enter Tryz.func18, Tryz.ntmps18
  go_upto_region 1 with (fail)
  rw [← hw0]
  clear hw0
  go_wp2_with (first
    | (go_at_call 47
       refine (valid05_yes (P := P) (.slice ao l.length cap) l w0 ⟨ao, cap, rfl, HX.out.keep (by decide) fun b _ hb => HE0.out.block b hb (by simp)⟩ HVL.out).mono ?_
       rintro e w1 ⟨rfl, hex⟩
       have HE1 := Lib.hid hex
       clear hex)
    | fail)
  go_ret
  exact ⟨rfl, HE0.out.trans HE1.out HE0.out.size (by simp)⟩

set_option maxHeartbeats 4000000 in
set_option maxRecDepth 100000 in
theorem syncValid_yes {P : Nat → Prop} (me : Int) (v : Value) (l : List St) (w : World) (hme : 0 ≤ me ∧ me < 64) (hv : Sl stRep P w v l) (hvl : validB l = true) :
    Calls Tryz.prog 41 #[.agg #[.int .i64 me, v]] w fun e w' => e = .returned (.bool true) ∧ Ex w.heap.size none w w' := by
  obtain ⟨ao, cap, rfl, hx⟩ := hv
  obtain ⟨w0, hw0⟩ : ∃ w0 : World, w0 = w.alloc (.cells #[.int .i64 me, .slice ao l.length cap] 31) := ⟨_, rfl⟩
  have HE0 : Hid (Ex w.heap.size none w w0) := Lib.hid (by rw [hw0]; exact Ex.new w _)
  have HB0 : Hid (w0.heap[w.heap.size]? = some (.cells #[.int .i64 me, .slice ao l.length cap] 31 (0, 0))) := Lib.hid (by rw [hw0]; exact heap_alloc_new w _)
  have c0 : w0.cell? ⟨w.heap.size, 0, none⟩ = some (.int .i64 me) := by rw [cell_of_row _ _ _ _ _ _ HB0.out]; rfl
  have c1 : w0.cell? ⟨w.heap.size, 1, none⟩ = some (.slice ao l.length cap) := by rw [cell_of_row _ _ _ _ _ _ HB0.out]; rfl
  have HVL := Lib.hid hvl
  have HX := Lib.hid hx
  have HME := Lib.hid hme
  clear hvl hx hme
  go_enter Tryz.func41, Tryz.ntmps41
  go_upto_region 1 with (fail)
  rw [← hw0]
  clear hw0
  go_wp2_with (first
    | (go_at_call 75
       refine (listsIn_yes me 0 63 _ (by have := HME.out; omega)).mono ?_
       rintro e w1 ⟨rfl, hw1⟩
       subst hw1)
    | (go_at_call 81
       refine (asB (storeValid_any (P := P) (.slice ao l.length cap) l _ ⟨ao, cap, rfl, HX.out.keep (by decide) fun b _ hb => HE0.out.block b hb (by simp)⟩ (by have := validB_len HVL.out; omega) (fun s hs => by have := checkI_tame (validB_mem HVL.out s hs).1; have h1 := this.list; have h2 := this.pins; omega)) HVL.out).mono ?_
       rintro e w2 ⟨rfl, hex⟩
       have HE1 := Lib.hid hex
       clear hex)
    | fail)
  go_ret
  exact ⟨rfl, HE0.out.trans HE1.out HE0.out.size (by simp)⟩
end Go.Proofs.YtaakacahblndcaaGreat

namespace Go.Proofs.YtaakacahblndcaaGreat
open Go.RowKit Go.Sort
attribute [local go_sem ↓] rowLoad_stv rowStore_stv rowBuild_stv
attribute [local go_sem ↓ high] builtin_appR

theorem OwnT.at0 {w : World} {rb : Nat} {ao : Option Addr} {cap : Nat} {l : List St} (h : OwnT w rb 0 ao cap l) : SlAt stRep (fun _ => True) w ao l := ((h.s (Nat.zero_le _)).sl.at').mono (by decide) fun _ _ _ => trivial
/-- One more of the statements that came in. -/
theorem step_app1 {w : World} {rb k : Nat} {ro : Option Addr} {rc : Nat} {l : List St} {x : St × Sv × Sv} (ho : OwnT w rb 0 ro rc (l.take k)) (hk : l[k]? = some x.1) (hl : Lies (fun b => b < rb) w x) (hrb : rb ≤ w.heap.size) (hm : k + 1 ≤ 10000000) :
    ∃ ro' rc' w', (appR #[27, 27] 27 #[.slice ro k rc, .slice (some ⟨w.heap.size, 0, none⟩) 1 1]).run Tryz.prog (w.alloc (.cells (stV x).cells 37)) = .ok (.slice ro' (k + 1) rc') w' ∧ OwnT w' rb 0 ro' rc' (l.take (k + 1)) ∧ Ex rb none w w' := by
  have hkl := (List.getElem?_eq_some_iff.1 hk).1
  obtain ⟨ro', rc', w', h1, h2, h3, _⟩ := run_appSt (w := w.alloc (.cells (stV x).cells 37)) rb 0 ro rc k (l.take k) (by rw [List.length_take]; omega) w.heap.size x (ho.keep (Ex.new w _) (Nat.le_refl _)) (heap_alloc_new w _) ((hl.keep fun b hb _ => (Ex.new w _).block b (by omega) (by simp)).mono fun b hb _ => ⟨Nat.zero_le _, fun e => by have := ho.row_ge b e; omega⟩) hm (by simp; omega)
  refine ⟨ro', rc', w', h1, ?_, (Ex.mono (Ex.new w _) hrb).trans h3 (Nat.le_refl _) (by simp)⟩
  rw [List.take_add_one, hk]
  exact h2

set_option maxHeartbeats 8000000 in
set_option maxRecDepth 100000 in
theorem right36_any {P : Nat → Prop} (v : Value) (l : List St) (w : World) (hv : Sl stRep P w v l) (hm : l.length ≤ 100000) (hok : ∀ s ∈ l, checkI s = 0 ∧ sealedB s = true) :
    Calls Tryz.prog 109 #[v] w fun e w' => ∃ ro rc, e = .returned (.slice ro l.length rc) ∧ OwnT w' w.heap.size 0 ro rc l ∧ Ex w.heap.size none w w' := by
  obtain ⟨ao, cap, rfl, hx⟩ := hv
  have HX : Hid (∀ w', Ex w.heap.size none w w' → SlAt stRep (fun b => b < w.heap.size) w' ao l) := Lib.hid (fun w' h => (hx.mono (P' := fun b => b < w.heap.size) (by decide) fun b _ hb => hb).keep (by decide) fun b _ hb => h.block b hb (by simp))
  have HOK := Lib.hid hok
  obtain ⟨n, hn⟩ : ∃ n, n = l.length := ⟨_, rfl⟩
  have HN := Lib.hid hn
  rw [← hn] at hm ⊢
  clear hx hok hn
  go_enter Tryz.func109, Tryz.ntmps109
  go_upto_region 3 with (fail)
  go_loopw [3, 4] (fun v i wr => ∃ (k : Nat) (ro : Option Addr) (rc : Nat), k ≤ n ∧ v = .slice ro k rc ∧ i = .int .i64 k ∧ Hid (OwnT wr w.heap.size 0 ro rc (l.take k)) ∧ Ex w.heap.size none w wr) (fun _ i _ => n - (intOf i).toNat)
  case atStart => exact ⟨0, none, 0, by omega, rfl, rfl, Lib.hid (OwnT.nil _ _ _), Ex.refl _ _ _⟩
  case round =>
    obtain ⟨k, ro, rc, hk, rfl, rfl, HO, hex⟩ := hrel
    have hsz := hex.size
    have HEX := Lib.hid hex
    clear hex
    by_cases hlt : k < n
    · have hltI : (k : Int) < (n : Int) := by omega
      obtain ⟨b, off, x, hao, hPb, hbl, HXs, hls, HLD⟩ := stv_get (HX.out wr HEX.out) k (by rw [← HN.out]; exact hlt)
      have HAO := Lib.hid hao
      subst hao
      have HLS := Lib.hid hls
      have HXC := Lib.hid (HOK.out x.1 (List.mem_of_getElem? HXs.out))
      have HTM := Lib.hid (checkI_tame HXC.out.1)
      have HLG : Hid (x.1.list.length ≤ 9223372036854775807 ∧ x.1.pins.length ≤ 9223372036854775807) := Lib.hid (by have h1 := HTM.out.list; have h2 := HTM.out.pins; omega)
      have hld := HLD.out wr rfl
      clear hls
      go_upto_region 6 with (first
        | (go_at_call 12
           refine (asB (sealed03_v x w1 (HLS.out.keep fun b _ hb => HE1.out.block b hb (by simp)) HTM.out) HXC.out.2).mono ?_
           rintro e w2 ⟨rfl, hex⟩
           have HE2 : Hid (Ex wr.heap.size none wr w2) := Lib.hid (HE1.out.trans hex HE1.out.size (by simp))
           clear hex hld
           have hld := HLD.out w2 (HE2.out.block b hbl (by simp)))
        | (go_at_call 86
           refine (check03_v x wr HLS.out HLG.out).mono ?_
           rintro e w1 ⟨he, hex⟩
           rw [HXC.out.1] at he
           subst he
           have HE1 : Hid (Ex wr.heap.size none wr w1) := Lib.hid hex
           clear hex hld
           have hld := HLD.out w1 (HE1.out.block b hbl (by simp)))
        | fail)
      have hlit := stV_lit w2 x
      obtain ⟨ro2, rc2, w4, hr4, ho4, hx4⟩ := step_app1 (w := w2) (x := x) (k := k) (HO.out.keep HE2.out (Nat.le_refl _)) HXs.out (HLS.out.keep fun b _ hb => HE2.out.block b hb (by simp)) (by have := HE2.out.size; omega) (by omega)
      obtain ⟨w3, hw3⟩ : ∃ w3 : World, w3 = w2.alloc (.cells (stV x).cells 37) := ⟨_, rfl⟩
      rw [← hw3] at hlit hr4
      have HO4 := Lib.hid ho4
      have HE4 : Hid (Ex w.heap.size none w w4) := Lib.hid ((HEX.out.trans HE2.out hsz (by simp)).trans hx4 (Nat.le_refl _) (by simp))
      clear ho4 hx4 hw3
      go_wp2
      go_roundw
      case rel => exact ⟨k + 1, ro2, rc2, by omega, rfl, by go_num, HO4, HE4.out⟩
      case measure => simp [intOf] <;> omega
    · obtain hkl : k = n := by omega
      have hltI : ¬ (k : Int) < (n : Int) := by omega
      go_wp2
      go_ret
      exact ⟨ro, rc, rfl, by have := HO.out; rwa [hkl, HN.out, List.take_length] at this, HEX.out⟩
end Go.Proofs.YtaakacahblndcaaGreat

namespace Go.Proofs.YtaakacahblndcaaGreat
open Go.RowKit Go.Sort
attribute [local go_sem ↓] rowLoad_stv rowStore_stv rowBuild_stv

set_option maxHeartbeats 8000000 in
set_option maxRecDepth 100000 in
theorem keep41_q {P : Nat → Prop} (Q : List St → Prop) (me : Int) (ao : Option Addr) (cap n : Nat) (l : List St) (x : St × Sv × Sv) (w : World) (hn : l.length = n) (hx : SlAt stRep P w ao l) (hvl : validB l = true) (hme : 0 ≤ me ∧ me < 64) (hly : Lies P w x) (ht : Tame x.1) (hA : ∀ l' u c, AddV l x.1 l' u c → Q l' ∧ c = 0) :
    Calls Tryz.prog 11 #[.agg #[.int .i64 me, .slice ao n cap], stV x] w fun e w' => ∃ ro n2 rc, e = .returned (.tuple #[.agg #[.int .i64 me, .slice ro n2 rc], .int .i64 0]) ∧ (∃ l2, n2 = l2.length ∧ Q l2 ∧ SlAt stRep (fun q => P q ∨ w.heap.size ≤ q) w' ro l2) ∧ Ex w.heap.size none w w' := by
  obtain ⟨ws, hws⟩ : ∃ ws : World, ws = ((w.alloc (.cells #[.int .i64 me, .slice ao n cap] 31)).alloc (.cells (stV x).cells 37)).alloc (.cells #[.int .i64 0, .slice none 0 0] 31) := ⟨_, rfl⟩
  have HEs : Hid (Ex w.heap.size none w ws) := Lib.hid (by rw [hws]; exact ((Ex.new w _).alloc (by simp) _).alloc (by simp; omega) _)
  have hzs : ws.heap.size = w.heap.size + 1 + 1 + 1 := by rw [hws]; simp
  have HBs : Hid (ws.heap[w.heap.size]? = some (.cells #[.int .i64 me, .slice ao n cap] 31 (0, 0)) ∧ ws.heap[w.heap.size + 1]? = some (.cells (stV x).cells 37 (0, 0)) ∧ ws.heap[w.heap.size + 1 + 1]? = some (.cells #[.int .i64 0, .slice none 0 0] 31 (0, 0))) := Lib.hid (by
    rw [hws]
    have e1 := heap_alloc_new w (.cells #[.int .i64 me, .slice ao n cap] 31)
    have e2 := heap_alloc_new (w.alloc (.cells #[.int .i64 me, .slice ao n cap] 31)) (.cells (stV x).cells 37)
    have e3 := heap_alloc_new ((w.alloc (.cells #[.int .i64 me, .slice ao n cap] 31)).alloc (.cells (stV x).cells 37)) (.cells #[.int .i64 0, .slice none 0 0] 31)
    have f1 := (Ex.new (w.alloc (.cells #[.int .i64 me, .slice ao n cap] 31)) (.cells (stV x).cells 37)).block w.heap.size (by simp) (by simp)
    have f2 := fun b hb => (Ex.new ((w.alloc (.cells #[.int .i64 me, .slice ao n cap] 31)).alloc (.cells (stV x).cells 37)) (.cells #[.int .i64 0, .slice none 0 0] 31)).block b hb (by simp)
    simp only [World.size_alloc] at e2 e3 f2
    exact ⟨(f2 _ (by omega)).trans (f1.trans e1), (f2 _ (by omega)).trans e2, e3⟩)
  have HQ : Hid (∀ w', Ex ws.heap.size none ws w' → w'.cell? ⟨w.heap.size, 0, none⟩ = some (.int .i64 me) ∧ w'.cell? ⟨w.heap.size, 1, none⟩ = some (.slice ao n cap) ∧ w'.frozen? ⟨w.heap.size, 1, none⟩ = false ∧ (rowLoad 37 ⟨w.heap.size + 1, 0, none⟩).run Tryz.prog w' = .ok (stV x) w' ∧ w'.cell? ⟨w.heap.size + 1 + 1, 0, none⟩ = some (.int .i64 0) ∧ w'.cell? ⟨w.heap.size + 1 + 1, 1, none⟩ = some (.slice none 0 0) ∧ w'.frozen? ⟨w.heap.size + 1 + 1, 0, none⟩ = false ∧ w'.frozen? ⟨w.heap.size + 1 + 1, 1, none⟩ = false) := Lib.hid (fun w' h => by
    have k0 := (h.block w.heap.size (by omega) (by simp)).trans HBs.out.1
    have k2 := (h.block (w.heap.size + 1 + 1) (by omega) (by simp)).trans HBs.out.2.2
    exact ⟨by rw [cell_of_row _ _ _ _ _ _ k0]; rfl, by rw [cell_of_row _ _ _ _ _ _ k0]; rfl, by simp [World.frozen?, k0], stV_box ((h.block (w.heap.size + 1) (by omega) (by simp)).trans HBs.out.2.1), by rw [cell_of_row _ _ _ _ _ _ k2]; rfl, by rw [cell_of_row _ _ _ _ _ _ k2]; rfl, by simp [World.frozen?, k2], by simp [World.frozen?, k2]⟩)
  have HSX : Hid (∀ w', Ex ws.heap.size none ws w' → SlAt stRep (fun q => P q ∧ q < w.heap.size) w' ao l) := Lib.hid (fun w' h => (hx.mono (by decide) fun b hb hlt => (⟨hb, hlt⟩ : P b ∧ b < w.heap.size)).keep (by decide) fun b _ hb => (h.block b (by omega) (by simp)).trans (HEs.out.block b hb (by simp)))
  have HLX : Hid (∀ w', Ex ws.heap.size none ws w' → Lies (fun q => P q ∧ q < w.heap.size) w' x) := Lib.hid (fun w' h => (hly.mono fun b hb hlt => (⟨hb, hlt⟩ : P b ∧ b < w.heap.size)).keep fun b _ hb => (h.block b (by omega) (by simp)).trans (HEs.out.block b hb (by simp)))
  have HVL := Lib.hid hvl
  have HN := Lib.hid hn
  have HME := Lib.hid hme
  have HT := Lib.hid ht
  have HA := Lib.hid hA
  have hl1 : n ≤ 1000 := by rw [← hn]; exact validB_len hvl
  clear hx hvl hn hme hly ht hA
  go_enter Tryz.func11, Tryz.ntmps11
  go_upto_region 1 with (fail)
  refine wp_world (fun W => W = ws) (by rw [hws]; rfl) (fun W hW => ?_)
  rw [hW]
  clear hW W hws
  obtain ⟨c0, c1, z1, r1, d0, d1, y0, y1⟩ := HQ.out _ (Ex.refl _ _ ws)
  go_upto_region 4 with (first
    | (go_at_call 41
       refine (syncValid_yes (P := fun q => P q ∧ q < w.heap.size) me (.slice ao n cap) l ws HME.out ⟨ao, cap, by rw [HN.out], HSX.out _ (Ex.refl _ _ ws)⟩ HVL.out).mono ?_
       rintro e w1 ⟨rfl, hex⟩
       have HE1 : Hid (Ex ws.heap.size none ws w1) := Lib.hid hex
       clear hex c0 c1 z1 r1 d0 d1 y0 y1
       obtain ⟨c0, c1, z1, r1, d0, d1, y0, y1⟩ := HQ.out _ HE1.out)
    | (go_at_call 42
       refine (storeAdd_any (P := fun q => P q ∧ q < w.heap.size) ao n cap l x w1 HN.out (HSX.out _ HE1.out) (by omega) (fun s hs => by have := checkI_tame (validB_mem HVL.out s hs).1; have h1 := this.list; have h2 := this.pins; omega) (HLX.out _ HE1.out) (by have h1 := HT.out.list; have h2 := HT.out.pins; omega)).mono ?_
       rintro e w2 ⟨v', l', u, c, rfl, hadd, hsl, hex⟩
       obtain ⟨hq, rfl⟩ := HA.out _ _ _ hadd
       have HQL := Lib.hid hq
       clear hq
       obtain ⟨ro, rc, rfl, hsl⟩ := hsl
       obtain ⟨n2, hn2⟩ : ∃ n2, n2 = l'.length := ⟨_, rfl⟩
       rw [← hn2]
       have HN2 := Lib.hid hn2
       have HS2 : Hid (SlAt stRep (fun q => (P q ∧ q < w.heap.size) ∨ w1.heap.size ≤ q) w2 ro l') := Lib.hid hsl
       have HE2 : Hid (Ex ws.heap.size none ws w2) := Lib.hid (HE1.out.trans hex HE1.out.size (by simp))
       clear hadd hsl hn2 hex c0 c1 z1 r1 d0 d1 y0 y1)
    | fail)
  refine wp_world (fun W => W = w2.alloc (.cells #[.slice ro n2 rc] 29)) rfl (fun w3 hw3 => ?_)
  have hz2 : ws.heap.size ≤ w2.heap.size := HE2.out.size
  have HE3 : Hid (Ex ws.heap.size none ws w3) := Lib.hid (HE2.out.trans (by rw [hw3]; exact Ex.new w2 _) hz2 (by simp))
  have c3 : w3.cell? ⟨w2.heap.size, 0, none⟩ = some (.slice ro n2 rc) := by rw [hw3]; exact box_cell (heap_alloc_new w2 _)
  have HS3 : Hid (SlAt stRep (fun q => ((P q ∧ q < w.heap.size) ∨ w1.heap.size ≤ q) ∧ q < w2.heap.size) w3 ro l') := Lib.hid ((HS2.out.mono (by decide) fun b hb hlt => (⟨hb, hlt⟩ : ((P b ∧ b < w.heap.size) ∨ w1.heap.size ≤ b) ∧ b < w2.heap.size)).keep (by decide) fun b hb _ => by rw [hw3]; exact (Ex.new w2 _).block b hb.2 (by simp))
  clear hw3
  obtain ⟨c0, c1, z1, r1, d0, d1, y0, y1⟩ := HQ.out _ HE3.out
  go_wp2
  have hz1 := HE1.out.size
  refine bodyPost_ret (v := .tuple #[.agg #[.int .i64 me, .slice ro n2 rc], .int .i64 0]) (by simp [results, Tryz.results11, go_sem, d0, d1]) rfl ?_
  refine ⟨ro, n2, rc, rfl, ⟨l', HN2.out, HQL.out, ?_⟩, ?_⟩
  · exact (HS3.out.keep (by decide) fun b hb _ => ((Below.heap_setCell _ _ _ _ (show b ≠ w.heap.size + 1 + 1 by omega)).trans ((Below.heap_setCell _ _ _ _ (show b ≠ w.heap.size + 1 + 1 by omega)).trans (Below.heap_setCell _ _ _ _ (show b ≠ w.heap.size by omega))))).mono (by decide) fun b hb _ => hb.1.elim (fun h => .inl h.1) (fun h => .inr (by omega))
  · exact (((HEs.out.trans HE3.out (by omega) (by simp)).setCell _ none _ (.inr (Nat.le_refl _))).setCell _ none _ (.inr (by omega))).setCell _ none _ (.inr (by omega))

theorem keep41_any {P : Nat → Prop} (me : Int) (ao : Option Addr) (cap n : Nat) (l : List St) (x : St × Sv × Sv) (l2 : List St) (w : World) (hn : l.length = n) (hx : SlAt stRep P w ao l) (hvl : validB l = true) (hme : 0 ≤ me ∧ me < 64) (hly : Lies P w x) (ht : Tame x.1) (hA : ∀ l' u c, AddV l x.1 l' u c → l' = l2 ∧ c = 0) :
    Calls Tryz.prog 11 #[.agg #[.int .i64 me, .slice ao n cap], stV x] w fun e w' => ∃ ro n2 rc, e = .returned (.tuple #[.agg #[.int .i64 me, .slice ro n2 rc], .int .i64 0]) ∧ n2 = l2.length ∧ SlAt stRep (fun q => P q ∨ w.heap.size ≤ q) w' ro l2 ∧ Ex w.heap.size none w w' :=
  (keep41_q (· = l2) me ao cap n l x w hn hx hvl hme hly ht hA).mono fun _ _ ⟨ro, n2, rc, h1, ⟨_, h2, h3, h4⟩, h5⟩ => ⟨ro, n2, rc, h1, h3 ▸ h2, h3 ▸ h4, h5⟩

set_option maxHeartbeats 8000000 in
set_option maxRecDepth 100000 in
theorem give41_any {P : Nat → Prop} (me dst : Int) (ao : Option Addr) (cap n : Nat) (l : List St) (x : St × Sv × Sv) (w : World) (hn : l.length = n) (hx : SlAt stRep P w ao l) (hvl : validB l = true) (hme : 0 ≤ me ∧ me < 64) (hto : 0 ≤ dst ∧ dst < 64) (hne : dst ≠ me) :
    Calls Tryz.prog 32 #[.agg #[.int .i64 me, .slice ao n cap], stV x, .int .i64 dst] w fun e w' => ∃ g, e = .returned (.tuple #[.agg #[.int .i64 me, .int .i64 dst, .int .i64 2, .slice none 0 0, .slice (some ⟨g, 0, none⟩) 1 1], .int .i64 0]) ∧ Ex w.heap.size none w w' := by
  obtain ⟨ws, hws⟩ : ∃ ws : World, ws = ((w.alloc (.cells #[.int .i64 me, .slice ao n cap] 31)).alloc (.cells (stV x).cells 37)).alloc (.cells #[.int .i64 0, .int .i64 0, .int .i64 0, .slice none 0 0, .slice none 0 0] 81) := ⟨_, rfl⟩
  have HEs : Hid (Ex w.heap.size none w ws) := Lib.hid (by rw [hws]; exact ((Ex.new w _).alloc (by simp) _).alloc (by simp; omega) _)
  have hzs : ws.heap.size = w.heap.size + 1 + 1 + 1 := by rw [hws]; simp
  have HBs : Hid (ws.heap[w.heap.size]? = some (.cells #[.int .i64 me, .slice ao n cap] 31 (0, 0)) ∧ ws.heap[w.heap.size + 1]? = some (.cells (stV x).cells 37 (0, 0)) ∧ ws.heap[w.heap.size + 1 + 1]? = some (.cells #[.int .i64 0, .int .i64 0, .int .i64 0, .slice none 0 0, .slice none 0 0] 81 (0, 0))) := Lib.hid (by
    rw [hws]
    have e1 := heap_alloc_new w (.cells #[.int .i64 me, .slice ao n cap] 31)
    have e2 := heap_alloc_new (w.alloc (.cells #[.int .i64 me, .slice ao n cap] 31)) (.cells (stV x).cells 37)
    have e3 := heap_alloc_new ((w.alloc (.cells #[.int .i64 me, .slice ao n cap] 31)).alloc (.cells (stV x).cells 37)) (.cells #[.int .i64 0, .int .i64 0, .int .i64 0, .slice none 0 0, .slice none 0 0] 81)
    have f1 := (Ex.new (w.alloc (.cells #[.int .i64 me, .slice ao n cap] 31)) (.cells (stV x).cells 37)).block w.heap.size (by simp) (by simp)
    have f2 := fun b hb => (Ex.new ((w.alloc (.cells #[.int .i64 me, .slice ao n cap] 31)).alloc (.cells (stV x).cells 37)) (.cells #[.int .i64 0, .int .i64 0, .int .i64 0, .slice none 0 0, .slice none 0 0] 81)).block b hb (by simp)
    simp only [World.size_alloc] at e2 e3 f2
    exact ⟨(f2 _ (by omega)).trans (f1.trans e1), (f2 _ (by omega)).trans e2, e3⟩)
  have HQ : Hid (∀ w', Ex ws.heap.size none ws w' → w'.cell? ⟨w.heap.size, 0, none⟩ = some (.int .i64 me) ∧ w'.cell? ⟨w.heap.size, 1, none⟩ = some (.slice ao n cap) ∧ (rowLoad 37 ⟨w.heap.size + 1, 0, none⟩).run Tryz.prog w' = .ok (stV x) w') := Lib.hid (fun w' h => by
    have k0 := (h.block w.heap.size (by omega) (by simp)).trans HBs.out.1
    exact ⟨by rw [cell_of_row _ _ _ _ _ _ k0]; rfl, by rw [cell_of_row _ _ _ _ _ _ k0]; rfl, stV_box ((h.block (w.heap.size + 1) (by omega) (by simp)).trans HBs.out.2.1)⟩)
  have HQ5 : Hid (∀ w', Ex ws.heap.size none ws w' → ∃ f : Array Value × Nat, w'.heap[w.heap.size + 1 + 1]? = some (.cells #[.int .i64 0, .int .i64 0, .int .i64 0, .slice none 0 0, .slice none 0 0] 81 (0, 0))) := Lib.hid (fun w' h => ⟨(#[], 0), (h.block (w.heap.size + 1 + 1) (by omega) (by simp)).trans HBs.out.2.2⟩)
  have HSX : Hid (∀ w', Ex ws.heap.size none ws w' → SlAt stRep P w' ao l) := Lib.hid (fun w' h => hx.keep (by decide) fun b _ hb => (h.block b (by omega) (by simp)).trans (HEs.out.block b hb (by simp)))
  have HVL := Lib.hid hvl
  have HN := Lib.hid hn
  have HME := Lib.hid hme
  clear hx hvl hn hme
  go_enter Tryz.func32, Tryz.ntmps32
  go_upto_region 1 with (fail)
  refine wp_world (fun W => W = ws) (by rw [hws]; rfl) (fun W hW => ?_)
  rw [hW]
  clear hW W hws
  obtain ⟨c0, c1, r1⟩ := HQ.out _ (Ex.refl _ _ ws)
  obtain ⟨t1, t2⟩ := hto
  have t3 : ¬ dst < 0 := by omega
  have t4 : ¬ (64 : Int) ≤ dst := by omega
  have t5 : (dst == me) = false := by simpa using hne
  go_upto_region 3 with (first
    | (go_at_call 41
       refine (syncValid_yes (P := P) me (.slice ao n cap) l ws HME.out ⟨ao, cap, by rw [HN.out], HSX.out _ (Ex.refl _ _ ws)⟩ HVL.out).mono ?_
       rintro e w1 ⟨rfl, hex⟩
       have HE1 : Hid (Ex ws.heap.size none ws w1) := Lib.hid hex
       clear hex c0 c1 r1
       obtain ⟨c0, c1, r1⟩ := HQ.out _ HE1.out)
    | fail)
  have hlit := stV_lit w1 x
  obtain ⟨w2, hw2⟩ : ∃ w2 : World, w2 = w1.alloc (.cells (stV x).cells 37) := ⟨_, rfl⟩
  rw [← hw2] at hlit
  have HE2 : Hid (Ex ws.heap.size none ws w2) := Lib.hid (HE1.out.trans (by rw [hw2]; exact Ex.new w1 _) HE1.out.size (by simp))
  have hb2 := (HE2.out.block (w.heap.size + 1 + 1) (by omega) (by simp)).trans HBs.out.2.2
  have m0 : w2.cell? ⟨w.heap.size + 1 + 1, 0, none⟩ = some (.int .i64 0) := by rw [cell_of_row _ _ _ _ _ _ hb2]; rfl
  have m1 : w2.cell? ⟨w.heap.size + 1 + 1, 1, none⟩ = some (.int .i64 0) := by rw [cell_of_row _ _ _ _ _ _ hb2]; rfl
  have m2 : w2.cell? ⟨w.heap.size + 1 + 1, 2, none⟩ = some (.int .i64 0) := by rw [cell_of_row _ _ _ _ _ _ hb2]; rfl
  have m3 : w2.cell? ⟨w.heap.size + 1 + 1, 3, none⟩ = some (.slice none 0 0) := by rw [cell_of_row _ _ _ _ _ _ hb2]; rfl
  have m4 : w2.cell? ⟨w.heap.size + 1 + 1, 4, none⟩ = some (.slice none 0 0) := by rw [cell_of_row _ _ _ _ _ _ hb2]; rfl
  have f0 : w2.frozen? ⟨w.heap.size + 1 + 1, 0, none⟩ = false := by simp [World.frozen?, hb2]
  have f1 : w2.frozen? ⟨w.heap.size + 1 + 1, 1, none⟩ = false := by simp [World.frozen?, hb2]
  have f2 : w2.frozen? ⟨w.heap.size + 1 + 1, 2, none⟩ = false := by simp [World.frozen?, hb2]
  have f3 : w2.frozen? ⟨w.heap.size + 1 + 1, 3, none⟩ = false := by simp [World.frozen?, hb2]
  have f4 : w2.frozen? ⟨w.heap.size + 1 + 1, 4, none⟩ = false := by simp [World.frozen?, hb2]
  clear hw2 hb2
  go_wp2
  refine bodyPost_ret (v := .tuple #[.agg #[.int .i64 me, .int .i64 dst, .int .i64 2, .slice none 0 0, .slice (some ⟨w1.heap.size, 0, none⟩) 1 1], .int .i64 0]) (by simp [results, Tryz.results32, go_sem, m0, m1, m2, m3, m4]) rfl ?_
  refine ⟨w1.heap.size, rfl, ?_⟩
  iterate 5 refine Ex.setCell ?_ _ none _ (.inr (by omega))
  exact HEs.out.trans HE2.out (by omega) (by simp)
end Go.Proofs.YtaakacahblndcaaGreat

namespace Go.Proofs.YtaakacahblndcaaGreat
open Go.RowKit Go.Sort
attribute [local go_sem ↓] rowLoad_stv rowStore_stv

/-- Whose row, by its last statement, is the whole list. -/
def RowIs (me : Int) (l : List St) : Prop := l.filter (authB me) = l ∧ ∀ ls, LinksR me l ls → 0 < l.length → branchS ls (sha (stB (minN l (l.length - 1)))) = some l
theorem validB_light9 {l : List St} (h : validB l = true) : LightL 9223372036854775807 l := fun s hs => by
  have := checkI_tame (validB_mem h s hs).1
  have h1 := this.list
  have h2 := this.pins
  omega
theorem validB_light6 {l : List St} (h : validB l = true) : LightL 1000000 l := fun s hs => by
  have := checkI_tame (validB_mem h s hs).1
  have h1 := this.list
  have h2 := this.pins
  omega
theorem branchV_some {w' : World} {base : Nat} {ls l : List St} {d : ByteArray} {u ub : Value} (h : BranchV w' base ls d u ub) (hb : branchS ls d = some l) : ∃ ro rc, u = .slice ro l.length rc ∧ ub = .bool true ∧ OwnS w' base ro rc l := by
  rcases h with ⟨h1, _⟩ | ⟨r, ro, rc, n, h1, h2, h3, h4, h5⟩
  · rw [hb] at h1; cases h1
  · rw [hb] at h1; cases h1
    exact ⟨ro, rc, by rw [h3, h2], h4, h5⟩

set_option maxHeartbeats 8000000 in
set_option maxRecDepth 100000 in
theorem row41_any {P : Nat → Prop} (me : Int) (ao : Option Addr) (cap n : Nat) (l : List St) (w : World) (hn : l.length = n) (hx : SlAt stRep P w ao l) (hvl : validB l = true) (hR : RowIs me l) :
    Calls Tryz.prog 45 #[.agg #[.int .i64 me, .slice ao n cap]] w fun e w' => ∃ ro rc, e = .returned (.slice ro n rc) ∧ OwnS w' w.heap.size ro rc l ∧ Ex w.heap.size none w w' := by
  obtain ⟨w0, hw0⟩ : ∃ w0 : World, w0 = w.alloc (.cells #[.int .i64 me, .slice ao n cap] 31) := ⟨_, rfl⟩
  have HE0 : Hid (Ex w.heap.size none w w0) := Lib.hid (by rw [hw0]; exact Ex.new w _)
  have HB0 : Hid (w0.heap[w.heap.size]? = some (.cells #[.int .i64 me, .slice ao n cap] 31 (0, 0))) := Lib.hid (by rw [hw0]; exact heap_alloc_new w _)
  have hz0 : w0.heap.size = w.heap.size + 1 := by rw [hw0]; simp
  have HC : Hid (∀ w', Ex w0.heap.size none w0 w' → w'.cell? ⟨w.heap.size, 0, none⟩ = some (.int .i64 me) ∧ w'.cell? ⟨w.heap.size, 1, none⟩ = some (.slice ao n cap)) := Lib.hid (fun w' h => by
    have k0 := (h.block w.heap.size (by omega) (by simp)).trans HB0.out
    exact ⟨by rw [cell_of_row _ _ _ _ _ _ k0]; rfl, by rw [cell_of_row _ _ _ _ _ _ k0]; rfl⟩)
  have HX : Hid (SlAt stRep P w0 ao l) := Lib.hid (hx.keep (by decide) fun b _ hb => HE0.out.block b hb (by simp))
  have HVL := Lib.hid hvl
  have HR := Lib.hid hR
  have hl1 : n ≤ 1000 := by rw [← hn]; exact validB_len hvl
  have HN := Lib.hid hn
  have HTM : Hid (∀ s ∈ l, Tame s) := Lib.hid (fun s hs => checkI_tame (validB_mem HVL.out s hs).1)
  clear hx hvl hR hn
  obtain ⟨c0, c1⟩ := HC.out _ (Ex.refl _ _ w0)
  go_enter Tryz.func45, Tryz.ntmps45
  go_upto_region 1 with (fail)
  rw [← hw0]
  clear hw0
  go_upto_region 2 with (first
    | (go_at_call 88
       refine (ofP_any (P := P) ao cap n l me w0 HN.out HX.out (by omega) (validB_light6 HVL.out)).mono ?_
       rintro e w1 ⟨ro, m, rc, rfl, hm, hown, hex⟩
       rw [HR.out.1] at hm hown
       have hmn : m = n := hm.trans HN.out
       subst hmn
       have HO1 : Hid (OwnS w1 w0.heap.size ro rc l) := Lib.hid hown
       have HE1 : Hid (Ex w0.heap.size none w0 w1) := Lib.hid hex
       clear hm hown hex c0 c1)
    | fail)
  by_cases h0 : m = 0
  · subst h0
    have hl0 : l = [] := List.length_eq_zero_iff.1 HN.out
    have HL0 := Lib.hid hl0
    clear hl0
    go_wp2
    go_ret
    exact ⟨none, 0, rfl, by rw [HL0.out]; exact OwnS.nil _ _, HE0.out.trans HE1.out (by omega) (by simp)⟩
  have hpos : 0 < m := by omega
  have k0 : ((m : Int) == 0) = false := by simp; omega
  have k0b : decide ((m : Int) = 0) = false := decide_eq_false (by omega)
  have hne : ¬ (m : Int) = 0 := by omega
  go_upto_region 4 with (fail)
  go_upto_region 5 with (first
    | (go_at_call 89
       refine (minFunc_any (P := fun _ => True) (.slice ro m rc) l w1 ⟨ro, rc, by rw [HN.out], HO1.out.sl.at'.mono (by decide) fun _ _ _ => trivial⟩ (by rw [HN.out]; omega) (by rw [HN.out]; exact hpos) HTM.out).mono ?_
       rintro e w2 ⟨y, rfl, hy, hyl, hly, hex⟩
       have HY : Hid (y.1 = minN l (l.length - 1) ∧ y.1 ∈ l) := Lib.hid ⟨hy, hyl⟩
       have HLY := Lib.hid hly
       have HE2 : Hid (Ex w1.heap.size none w1 w2) := Lib.hid hex
       have hnew := stV_new w2 #[.int .i64 0, .int .i64 0, .string ⟨#[]⟩, .int .i64 0, .int .i64 0, .int .i64 0, .int .i64 0, .int .i64 0, .slice none 0 0, .slice none 0 0, .string ⟨#[]⟩, .int .i64 0, .string ⟨#[]⟩] y rfl
       clear hy hyl hly hex)
    | fail)
  refine wp_world (fun W => W = w2.alloc (.cells (stV y).cells 37)) rfl (fun w3 hw3 => ?_)
  have HE3 : Hid (Ex w1.heap.size none w1 w3) := Lib.hid (HE2.out.trans (by rw [hw3]; exact Ex.new w2 _) HE2.out.size (by simp))
  have hz1 : w0.heap.size ≤ w1.heap.size := HE1.out.size
  have hz2 : w1.heap.size ≤ w2.heap.size := HE2.out.size
  have hz3 : w3.heap.size = w2.heap.size + 1 := by rw [hw3]; simp
  have HQ : Hid (∀ w', Ex w3.heap.size none w3 w' → w'.cell? ⟨w.heap.size, 0, none⟩ = some (.int .i64 me) ∧ (rowLoad 37 ⟨w2.heap.size, 0, none⟩).run Tryz.prog w' = .ok (stV y) w') := Lib.hid (fun w' h => ⟨(HC.out w' ((HE1.out.trans HE3.out hz1 (by simp)).trans h (by omega) (by simp))).1, stV_box ((h.block w2.heap.size (by omega) (by simp)).trans (by rw [hw3]; exact heap_alloc_new w2 _))⟩)
  have HLY3 : Hid (∀ w', Ex w3.heap.size none w3 w' → Lies (fun _ => True) w' y) := Lib.hid (fun w' h => HLY.out.keep fun b _ hb => (h.block b (by omega) (by simp)).trans (by rw [hw3]; exact (Ex.new w2 _).block b hb (by simp)))
  have HX3 : Hid (∀ w', Ex w3.heap.size none w3 w' → Sl stRep (fun _ => True) w' (.slice ro m rc) l) := Lib.hid (fun w' h => ⟨ro, rc, by rw [HN.out], (HO1.out.sl.at'.keep (by decide) fun b _ hb => (h.block b (by omega) (by simp)).trans (HE3.out.block b hb (by simp))).mono (by decide) fun _ _ _ => trivial⟩)
  obtain ⟨d, hd⟩ : ∃ d, d = sha (stB y.1) := ⟨_, rfl⟩
  have HD := Lib.hid hd
  have HDG : Hid (∀ w', Ex w3.heap.size none w3 w' → Calls Tryz.prog 38 #[stV y] w' fun e w'' => e = .returned (.string d) ∧ Ex w'.heap.size none w' w'') := Lib.hid (fun w' h => by rw [HD.out]; exact digest_v y w' (HLY3.out w' h) (HTM.out _ HY.out.2))
  have HBR : Hid (∀ w', Ex w3.heap.size none w3 w' → Calls Tryz.prog 94 #[.int .i64 me, .slice ro m rc, .string d] w' fun e w'' => ∃ ro2 rc2, e = .returned (.tuple #[.slice ro2 m rc2, .bool true]) ∧ OwnS w'' w'.heap.size ro2 rc2 l ∧ Ex w'.heap.size none w' w'') := Lib.hid (fun w' h => by
    refine (branchP_any (P := fun _ => True) me (.slice ro m rc) l d w' (HX3.out w' h) (by rw [HN.out]; omega) (validB_light9 HVL.out) (by rw [HD.out]; exact sha_size_le _)).mono ?_
    rintro e w'' ⟨ls, u, ub, hls, rfl, hbv, hex⟩
    obtain ⟨ro2, rc2, rfl, rfl, ho⟩ := branchV_some hbv (by rw [HD.out, HY.out.1]; exact HR.out.2 ls hls (by rw [HN.out]; exact hpos))
    exact ⟨ro2, rc2, by rw [HN.out], ho, hex⟩)
  clear hnew hw3 hd
  obtain ⟨q1, q2⟩ := HQ.out _ (Ex.refl _ _ w3)
  go_region_held3 (fun w' => w'.cell? ⟨w.heap.size, 0, none⟩ = some (.int .i64 me) ∧ (rowLoad 37 ⟨w2.heap.size, 0, none⟩).run Tryz.prog w' = .ok (stV y) w')
    (first | exact HQ.out _ HE5.out | exact HQ.out _ HE4.out | exact HQ.out _ (Ex.refl _ _ w3) | exact HQ.out _ (Ex.drew (Ex.refl _ _ w3)))
    (first
      | (go_at_call 94
         refine (HBR.out _ HE4.out).mono ?_
         rintro e w5 ⟨ro2, rc2, rfl, ho, hex⟩
         have HO5 : Hid (OwnS w5 w4.heap.size ro2 rc2 l) := Lib.hid ho
         have HE5 : Hid (Ex w3.heap.size none w3 w5) := Lib.hid (HE4.out.trans hex HE4.out.size (by simp))
         clear ho hex q1 q2
         obtain ⟨q1, q2⟩ := HQ.out _ HE5.out)
      | (go_at_call 38
         refine (HDG.out _ (by first | exact Ex.refl _ _ w3 | exact Ex.drew (Ex.refl _ _ w3))).mono ?_
         rintro e w4 ⟨rfl, hex⟩
         have HE4 : Hid (Ex w3.heap.size none w3 w4) := Lib.hid ((by first | exact Ex.refl _ _ w3 | exact Ex.drew (Ex.refl _ _ w3) : Ex w3.heap.size none w3 _).trans hex (by simp) (by simp))
         clear hex q1 q2
         obtain ⟨q1, q2⟩ := HQ.out _ HE4.out))
  go_wp2
  go_ret
  have hz4 := HE4.out.size
  exact ⟨ro2, rc2, rfl, HO5.out.lower (by omega), (HE0.out.trans (HE1.out.trans HE3.out hz1 (by simp)) (by omega) (by simp)).trans HE5.out (by omega) (by simp)⟩

set_option maxHeartbeats 8000000 in
set_option maxRecDepth 100000 in
theorem base41_any {P : Nat → Prop} (me : Int) (ao : Option Addr) (cap n k : Nat) (l : List St) (w : World) (hn : l.length = n) (hx : SlAt stRep P w ao l) (hvl : validB l = true) (hR : RowIs me l) (hme : 0 ≤ me ∧ me < 64) (hk : k ≤ 200) :
    Calls Tryz.prog 14 #[.agg #[.int .i64 me, .slice ao n cap], .int .i64 k] w fun e w' => ∃ ro m, m = n - k ∧ e = .returned (.tuple #[.slice ro m m, .int .i64 0]) ∧ SlAt stRep (fun q => w.heap.size ≤ q) w' ro (l.take m) ∧ Ex w.heap.size none w w' := by
  obtain ⟨w0, hw0⟩ : ∃ w0 : World, w0 = w.alloc (.cells #[.int .i64 me, .slice ao n cap] 31) := ⟨_, rfl⟩
  have HE0 : Hid (Ex w.heap.size none w w0) := Lib.hid (by rw [hw0]; exact Ex.new w _)
  have HB0 : Hid (w0.heap[w.heap.size]? = some (.cells #[.int .i64 me, .slice ao n cap] 31 (0, 0))) := Lib.hid (by rw [hw0]; exact heap_alloc_new w _)
  have hz0 : w0.heap.size = w.heap.size + 1 := by rw [hw0]; simp
  have HC : Hid (∀ w', Ex w0.heap.size none w0 w' → w'.cell? ⟨w.heap.size, 0, none⟩ = some (.int .i64 me) ∧ w'.cell? ⟨w.heap.size, 1, none⟩ = some (.slice ao n cap)) := Lib.hid (fun w' h => by
    have k0 := (h.block w.heap.size (by omega) (by simp)).trans HB0.out
    exact ⟨by rw [cell_of_row _ _ _ _ _ _ k0]; rfl, by rw [cell_of_row _ _ _ _ _ _ k0]; rfl⟩)
  have HX : Hid (∀ w', Ex w0.heap.size none w0 w' → SlAt stRep P w' ao l) := Lib.hid (fun w' h => hx.keep (by decide) fun b _ hb => (h.block b (by omega) (by simp)).trans (HE0.out.block b hb (by simp)))
  have HVL := Lib.hid hvl
  have HR := Lib.hid hR
  have hl1 : n ≤ 1000 := by rw [← hn]; exact validB_len hvl
  have HN := Lib.hid hn
  have HME := Lib.hid hme
  clear hx hvl hR hn hme
  obtain ⟨c0, c1⟩ := HC.out _ (Ex.refl _ _ w0)
  have k1 : ¬ (k : Int) < 0 := by omega
  have k2 : ¬ (200 : Int) < (k : Int) := by omega
  go_enter Tryz.func14, Tryz.ntmps14
  go_upto_region 1 with (fail)
  rw [← hw0]
  clear hw0
  go_upto_region 6 with (first
    | (go_at_call 45
       refine (row41_any (P := P) me ao cap n l w1 HN.out (HX.out _ HE1.out) HVL.out HR.out).mono ?_
       rintro e w2 ⟨ro, rc, rfl, ho, hex⟩
       have HO2 : Hid (OwnS w2 w1.heap.size ro rc l) := Lib.hid ho
       have HE2 : Hid (Ex w0.heap.size none w0 w2) := Lib.hid (HE1.out.trans hex HE1.out.size (by simp))
       clear ho hex c0 c1)
    | (go_at_call 41
       refine (syncValid_yes (P := P) me (.slice ao n cap) l w0 HME.out ⟨ao, cap, by rw [HN.out], HX.out _ (Ex.refl _ _ w0)⟩ HVL.out).mono ?_
       rintro e w1 ⟨rfl, hex⟩
       have HE1 : Hid (Ex w0.heap.size none w0 w1) := Lib.hid hex
       clear hex c0 c1
       obtain ⟨c0, c1⟩ := HC.out _ HE1.out)
    | fail)
  obtain ⟨m, hm⟩ : ∃ m, m = n - k := ⟨_, rfl⟩
  have hmx : max (0 : Int) ((n : Int) - (k : Int)) = (m : Int) := by omega
  have hmn : m ≤ n := by omega
  have hmnI : (m : Int) ≤ (n : Int) := by omega
  have hcap : n ≤ rc := by have := OwnT.len HO2.out.t; rw [HN.out] at this; exact this
  have hcapI : (m : Int) ≤ (rc : Int) := by omega
  have HM := Lib.hid hm
  clear hm
  go_wp2
  go_ret2
  have hz1 := HE1.out.size
  exact ⟨ro, m, HM.out, rfl, (HO2.out.sl.at'.take m).mono (by decide) fun b hb _ => by omega, HE0.out.trans HE2.out (by omega) (by simp)⟩
end Go.Proofs.YtaakacahblndcaaGreat

namespace Go.Proofs.YtaakacahblndcaaGreat
open Go.RowKit Go.Sort
attribute [local go_sem ↓] rowLoad_stv rowStore_stv

/-- The statement that is written, ahead of its seal. -/
def wrS (me kind a t : Int) (l : List St) (m : Nat) : St := match m with
  | 0 => ⟨me, 0, ⟨#[]⟩, t, kind, a, 0, 0, [], [], ⟨#[]⟩, 0, ⟨#[]⟩⟩
  | j + 1 => ⟨me, (j + 1 : Nat), sha (stB (l.getD j default)), max t (l.getD j default).time, kind, a, 0, 0, [], [], ⟨#[]⟩, 0, ⟨#[]⟩⟩

/-- What region 4 has made: a box with a statement in it whose lists are empty. -/
def WrBox (w1 : World) (s : St) (p : Value) (W : World) : Prop := ∃ g, ∃ x : St × Sv × Sv, p = .pointer (some ⟨g, 0, none⟩) ∧ x.1 = s ∧ W.heap[g]? = some (.cells (stV x).cells 37 (0, 0)) ∧ w1.heap.size ≤ g ∧ (∀ P W', Lies P W' x) ∧ Ex w1.heap.size none w1 W
/-- What region 7 has made of it. -/
def WrSet (w5 : World) (g : Nat) (x : St × Sv × Sv) (d : ByteArray) (tm : Int) (W : World) : Prop := W.heap[g]? = some (.cells (stV ({x.1 with prev := d, time := tm}, x.2)).cells 37 (0, 0)) ∧ ∃ w6, Ex w5.heap.size none w5 w6 ∧ Ex g none w6 W
set_option maxHeartbeats 8000000 in
set_option maxRecDepth 100000 in
theorem write41_any {P : Nat → Prop} (me kind a t : Int) (ao : Option Addr) (cap n k m : Nat) (l : List St) (w : World) (hn : l.length = n) (hx : SlAt stRep P w ao l) (hvl : validB l = true) (hR : RowIs me l) (hme : 0 ≤ me ∧ me < 64) (hk : k ≤ 200) (hmk : m = n - k) (hck : checkI (wrS me kind a t l m) = 0) :
    Calls Tryz.prog 10 #[.agg #[.int .i64 me, .slice ao n cap], .agg #[.int .i64 kind, .int .i64 a, .int .i64 0, .int .i64 0, .slice none 0 0, .slice none 0 0], .int .i64 t, .int .i64 k] w fun e w' => ∃ y : St × Sv × Sv, e = .returned (.tuple #[stV y, .int .i64 0]) ∧ y.1 = sealS (wrS me kind a t l m) ∧ Lies (fun b => w.heap.size ≤ b) w' y ∧ Ex w.heap.size none w w' := by
  obtain ⟨ws, hws⟩ : ∃ ws : World, ws = ((w.alloc (.cells #[.int .i64 me, .slice ao n cap] 31)).alloc (.cells #[.int .i64 kind, .int .i64 a, .int .i64 0, .int .i64 0, .slice none 0 0, .slice none 0 0] 42)).alloc (.cells #[.int .i64 0, .int .i64 0, .string ⟨#[]⟩, .int .i64 0, .int .i64 0, .int .i64 0, .int .i64 0, .int .i64 0, .slice none 0 0, .slice none 0 0, .string ⟨#[]⟩, .int .i64 0, .string ⟨#[]⟩] 37) := ⟨_, rfl⟩
  have HEs : Hid (Ex w.heap.size none w ws) := Lib.hid (by rw [hws]; exact ((Ex.new w _).alloc (by simp) _).alloc (by simp; omega) _)
  have hzs : ws.heap.size = w.heap.size + 1 + 1 + 1 := by rw [hws]; simp
  have HBs : Hid (ws.heap[w.heap.size]? = some (.cells #[.int .i64 me, .slice ao n cap] 31 (0, 0)) ∧ ws.heap[w.heap.size + 1]? = some (.cells #[.int .i64 kind, .int .i64 a, .int .i64 0, .int .i64 0, .slice none 0 0, .slice none 0 0] 42 (0, 0)) ∧ ws.heap[w.heap.size + 1 + 1]? = some (.cells #[.int .i64 0, .int .i64 0, .string ⟨#[]⟩, .int .i64 0, .int .i64 0, .int .i64 0, .int .i64 0, .int .i64 0, .slice none 0 0, .slice none 0 0, .string ⟨#[]⟩, .int .i64 0, .string ⟨#[]⟩] 37 (0, 0))) := Lib.hid (by
    rw [hws]
    have e1 := heap_alloc_new w (.cells #[.int .i64 me, .slice ao n cap] 31)
    have e2 := heap_alloc_new (w.alloc (.cells #[.int .i64 me, .slice ao n cap] 31)) (.cells #[.int .i64 kind, .int .i64 a, .int .i64 0, .int .i64 0, .slice none 0 0, .slice none 0 0] 42)
    have e3 := heap_alloc_new ((w.alloc (.cells #[.int .i64 me, .slice ao n cap] 31)).alloc (.cells #[.int .i64 kind, .int .i64 a, .int .i64 0, .int .i64 0, .slice none 0 0, .slice none 0 0] 42)) (.cells #[.int .i64 0, .int .i64 0, .string ⟨#[]⟩, .int .i64 0, .int .i64 0, .int .i64 0, .int .i64 0, .int .i64 0, .slice none 0 0, .slice none 0 0, .string ⟨#[]⟩, .int .i64 0, .string ⟨#[]⟩] 37)
    have f1 := (Ex.new (w.alloc (.cells #[.int .i64 me, .slice ao n cap] 31)) (.cells #[.int .i64 kind, .int .i64 a, .int .i64 0, .int .i64 0, .slice none 0 0, .slice none 0 0] 42)).block w.heap.size (by simp) (by simp)
    have f2 := fun b hb => (Ex.new ((w.alloc (.cells #[.int .i64 me, .slice ao n cap] 31)).alloc (.cells #[.int .i64 kind, .int .i64 a, .int .i64 0, .int .i64 0, .slice none 0 0, .slice none 0 0] 42)) (.cells #[.int .i64 0, .int .i64 0, .string ⟨#[]⟩, .int .i64 0, .int .i64 0, .int .i64 0, .int .i64 0, .int .i64 0, .slice none 0 0, .slice none 0 0, .string ⟨#[]⟩, .int .i64 0, .string ⟨#[]⟩] 37)).block b hb (by simp)
    simp only [World.size_alloc] at e2 e3 f2
    exact ⟨(f2 _ (by omega)).trans (f1.trans e1), (f2 _ (by omega)).trans e2, e3⟩)
  have HQ : Hid (∀ w', Ex ws.heap.size none ws w' → w'.cell? ⟨w.heap.size, 0, none⟩ = some (.int .i64 me) ∧ w'.cell? ⟨w.heap.size, 1, none⟩ = some (.slice ao n cap) ∧ w'.cell? ⟨w.heap.size + 1, 0, none⟩ = some (.int .i64 kind) ∧ w'.cell? ⟨w.heap.size + 1, 1, none⟩ = some (.int .i64 a) ∧ w'.cell? ⟨w.heap.size + 1, 2, none⟩ = some (.int .i64 0) ∧ w'.cell? ⟨w.heap.size + 1, 3, none⟩ = some (.int .i64 0) ∧ w'.cell? ⟨w.heap.size + 1, 4, none⟩ = some (.slice none 0 0) ∧ w'.cell? ⟨w.heap.size + 1, 5, none⟩ = some (.slice none 0 0)) := Lib.hid (fun w' h => by
    have k0 := (h.block w.heap.size (by omega) (by simp)).trans HBs.out.1
    have k1 := (h.block (w.heap.size + 1) (by omega) (by simp)).trans HBs.out.2.1
    exact ⟨by rw [cell_of_row _ _ _ _ _ _ k0]; rfl, by rw [cell_of_row _ _ _ _ _ _ k0]; rfl, by rw [cell_of_row _ _ _ _ _ _ k1]; rfl, by rw [cell_of_row _ _ _ _ _ _ k1]; rfl, by rw [cell_of_row _ _ _ _ _ _ k1]; rfl, by rw [cell_of_row _ _ _ _ _ _ k1]; rfl, by rw [cell_of_row _ _ _ _ _ _ k1]; rfl, by rw [cell_of_row _ _ _ _ _ _ k1]; rfl⟩)
  have HSX : Hid (∀ w', Ex ws.heap.size none ws w' → SlAt stRep P w' ao l) := Lib.hid (fun w' h => hx.keep (by decide) fun b _ hb => (h.block b (by omega) (by simp)).trans (HEs.out.block b hb (by simp)))
  have HVL := Lib.hid hvl
  have HR := Lib.hid hR
  have HN := Lib.hid hn
  have HME := Lib.hid hme
  have HMK := Lib.hid hmk
  have HCK := Lib.hid hck
  have hl1 : n ≤ 1000 := by rw [← hn]; exact validB_len hvl
  clear hx hvl hR hn hme hmk hck
  go_enter Tryz.func10, Tryz.ntmps10
  go_upto_region 1 with (fail)
  refine wp_world (fun W => W = ws) (by rw [hws]) (fun W hW => ?_)
  rw [hW]
  clear hW W hws
  obtain ⟨c0, c1, c2, c3, c4, c5, c6, c7⟩ := HQ.out _ (Ex.refl _ _ ws)
  go_upto_region 4 with (first
    | (go_at_call 14
       refine (base41_any (P := P) me ao cap n k l ws HN.out (HSX.out _ (Ex.refl _ _ ws)) HVL.out HR.out HME.out hk).mono ?_
       rintro e w1 ⟨ro, m', hm', rfl, hs1, hex⟩
       have hmm : m' = m := hm'.trans HMK.out.symm
       subst hmm
       have HS1 : Hid (SlAt stRep (fun q => ws.heap.size ≤ q) w1 ro (l.take m')) := Lib.hid hs1
       have HE1 : Hid (Ex ws.heap.size none ws w1) := Lib.hid hex
       clear hm' hs1 hex c0 c1 c2 c3 c4 c5 c6 c7
       obtain ⟨c0, c1, c2, c3, c4, c5, c6, c7⟩ := HQ.out _ HE1.out)
    | fail)
  have hz1 : ws.heap.size ≤ w1.heap.size := HE1.out.size
  have HQ4 : Hid (∀ w', Ex w1.heap.size none w1 w' → w'.cell? ⟨w.heap.size, 0, none⟩ = some (.int .i64 me) ∧ w'.cell? ⟨w.heap.size + 1, 0, none⟩ = some (.int .i64 kind) ∧ w'.cell? ⟨w.heap.size + 1, 1, none⟩ = some (.int .i64 a) ∧ w'.cell? ⟨w.heap.size + 1, 2, none⟩ = some (.int .i64 0) ∧ w'.cell? ⟨w.heap.size + 1, 3, none⟩ = some (.int .i64 0) ∧ w'.cell? ⟨w.heap.size + 1, 4, none⟩ = some (.slice none 0 0) ∧ w'.cell? ⟨w.heap.size + 1, 5, none⟩ = some (.slice none 0 0)) := Lib.hid (fun w' h => by
    obtain ⟨a0, _, a2, a3, a4, a5, a6, a7⟩ := HQ.out w' (HE1.out.thenW h)
    exact ⟨a0, a2, a3, a4, a5, a6, a7⟩)
  go_cut [12] from 25 to 44 (fun p W => WrBox w1 ⟨me, ((m' : Nat) : Int), ⟨#[]⟩, t, kind, a, 0, 0, [], [], ⟨#[]⟩, 0, ⟨#[]⟩⟩ p W)
  case first =>
    go_region_held3 (fun w' => w'.cell? ⟨w.heap.size, 0, none⟩ = some (.int .i64 me) ∧ w'.cell? ⟨w.heap.size + 1, 0, none⟩ = some (.int .i64 kind) ∧ w'.cell? ⟨w.heap.size + 1, 1, none⟩ = some (.int .i64 a) ∧ w'.cell? ⟨w.heap.size + 1, 2, none⟩ = some (.int .i64 0) ∧ w'.cell? ⟨w.heap.size + 1, 3, none⟩ = some (.int .i64 0) ∧ w'.cell? ⟨w.heap.size + 1, 4, none⟩ = some (.slice none 0 0) ∧ w'.cell? ⟨w.heap.size + 1, 5, none⟩ = some (.slice none 0 0)) (exact HQ4.out _ (by first | exact HE3.out.setRow _ _ (.inr (Nat.le_refl _)) | exact HE3.out.setRow _ _ (.inr HE2.out.size) | exact HE3.out | exact HE3.out.drew | exact HE3.out.alloc HE3.out.size _ | exact HE2.out | exact HE2.out.drew | exact HE2.out.alloc HE2.out.size _ | exact (Ex.refl w1.heap.size none w1) | exact (Ex.refl w1.heap.size none w1).drew | exact (Ex.refl w1.heap.size none w1).alloc (Nat.le_refl _) _ | exact ((Ex.refl w1.heap.size none w1).alloc (Nat.le_refl _) _).drew | exact (Ex.refl w1.heap.size none w1).drew.alloc (Nat.le_refl _) _))
      (first
        | (go_at_call 36
           refine (cloneInts_any (P := fun _ => True) none 0 0 [] _ (Sl.nil _ _) (by decide)).mono ?_
           rintro e w2 ⟨la, na, ca, rfl, hli, hex⟩
           obtain rfl : na = 0 := by obtain ⟨_, _, hh, _⟩ := hli; cases hh; rfl
           try (
             have hb2 : w2.heap[w1.heap.size]? = some (.cells #[.int .i64 0, .int .i64 0, .string ⟨#[]⟩, .int .i64 0, .int .i64 0, .int .i64 0, .int .i64 0, .int .i64 0, .slice none 0 0, .slice none 0 0, .string ⟨#[]⟩, .int .i64 0, .string ⟨#[]⟩] 37 (0, 0)) := (hex.block w1.heap.size (by simp) (by simp)).trans (heap_alloc_new _ _)
             have HB2 := Lib.hid hb2
             clear hb2)
           have HE2 : Hid (Ex w1.heap.size none w1 w2) := Lib.hid (Ex.thenW (by first | exact HE3.out | exact HE3.out.drew | exact HE3.out.alloc HE3.out.size _ | exact HE2.out | exact HE2.out.drew | exact HE2.out.alloc HE2.out.size _ | exact (Ex.refl w1.heap.size none w1) | exact (Ex.refl w1.heap.size none w1).drew | exact (Ex.refl w1.heap.size none w1).alloc (Nat.le_refl _) _ | exact ((Ex.refl w1.heap.size none w1).alloc (Nat.le_refl _) _).drew | exact (Ex.refl w1.heap.size none w1).drew.alloc (Nat.le_refl _) _) hex)
           have HZ12 : Hid (w1.heap.size ≤ w2.heap.size) := Lib.hid (by have := hex.size; first | omega | (simp at this; omega))
           clear hli hex c0 c1 c2 c3 c4 c5 c6 c7
           obtain ⟨c0, c1, c2, c3, c4, c5, c6, c7⟩ := HQ.out _ (HE1.out.thenW HE2.out))
        | (go_at_call 37
           refine (clonePins_any (P := fun _ => True) none 0 0 [] _ (Sl.nil _ _) (by decide)).mono ?_
           rintro e w3 ⟨pa, np, cp, rfl, hlp, hex⟩
           obtain rfl : np = 0 := by obtain ⟨_, _, hh, _⟩ := hlp; cases hh; rfl
           have hz2 := HE2.out.size
           have hnew : (rowStore 37 ⟨w3.heap.size, 0, none⟩ (.agg #[.int .i64 me, .int .i64 ((m' : Nat) : Int), .string ⟨#[]⟩, .int .i64 t, .int .i64 kind, .int .i64 a, .int .i64 0, .int .i64 0, .slice la 0 ca, .slice pa 0 cp, .string ⟨#[]⟩, .int .i64 0, .string ⟨#[]⟩])).run Tryz.prog (w3.alloc (.cells #[.int .i64 0, .int .i64 0, .string ⟨#[]⟩, .int .i64 0, .int .i64 0, .int .i64 0, .int .i64 0, .int .i64 0, .slice none 0 0, .slice none 0 0, .string ⟨#[]⟩, .int .i64 0, .string ⟨#[]⟩] 37)) = .ok () (w3.alloc (.cells #[.int .i64 me, .int .i64 ((m' : Nat) : Int), .string ⟨#[]⟩, .int .i64 t, .int .i64 kind, .int .i64 a, .int .i64 0, .int .i64 0, .slice la 0 ca, .slice pa 0 cp, .string ⟨#[]⟩, .int .i64 0, .string ⟨#[]⟩] 37)) := stV_new w3 #[.int .i64 0, .int .i64 0, .string ⟨#[]⟩, .int .i64 0, .int .i64 0, .int .i64 0, .int .i64 0, .int .i64 0, .slice none 0 0, .slice none 0 0, .string ⟨#[]⟩, .int .i64 0, .string ⟨#[]⟩] (⟨me, ((m' : Nat) : Int), ⟨#[]⟩, t, kind, a, 0, 0, [], [], ⟨#[]⟩, 0, ⟨#[]⟩⟩, ⟨la, 0, ca⟩, ⟨pa, 0, cp⟩) rfl
           try (
             have hb3 : w3.heap[w1.heap.size]? = some (.cells #[.int .i64 0, .int .i64 0, .string ⟨#[]⟩, .int .i64 0, .int .i64 0, .int .i64 0, .int .i64 0, .int .i64 0, .slice none 0 0, .slice none 0 0, .string ⟨#[]⟩, .int .i64 0, .string ⟨#[]⟩] 37 (0, 0)) := (hex.block w1.heap.size (Array.getElem?_eq_some_iff.1 HB2.out).1 (by simp)).trans HB2.out
             have hst : (rowStore 37 ⟨w1.heap.size, 0, none⟩ (.agg #[.int .i64 me, .int .i64 ((m' : Nat) : Int), .string ⟨#[]⟩, .int .i64 t, .int .i64 kind, .int .i64 a, .int .i64 0, .int .i64 0, .slice la 0 ca, .slice pa 0 cp, .string ⟨#[]⟩, .int .i64 0, .string ⟨#[]⟩])).run Tryz.prog w3 = .ok () (w3.setRow w1.heap.size #[.int .i64 me, .int .i64 ((m' : Nat) : Int), .string ⟨#[]⟩, .int .i64 t, .int .i64 kind, .int .i64 a, .int .i64 0, .int .i64 0, .slice la 0 ca, .slice pa 0 cp, .string ⟨#[]⟩, .int .i64 0, .string ⟨#[]⟩]) := run_rowStore (P := Tryz.prog) w3 w1.heap.size 37 37 #[.int .i64 0, .int .i64 0, .string ⟨#[]⟩, .int .i64 0, .int .i64 0, .int .i64 0, .int .i64 0, .int .i64 0, .slice none 0 0, .slice none 0 0, .string ⟨#[]⟩, .int .i64 0, .string ⟨#[]⟩] #[.int .i64 me, .int .i64 ((m' : Nat) : Int), .string ⟨#[]⟩, .int .i64 t, .int .i64 kind, .int .i64 a, .int .i64 0, .int .i64 0, .slice la 0 ca, .slice pa 0 cp, .string ⟨#[]⟩, .int .i64 0, .string ⟨#[]⟩] hb3 Tryz.sizeStv rfl (stV_one (⟨me, ((m' : Nat) : Int), ⟨#[]⟩, t, kind, a, 0, 0, [], [], ⟨#[]⟩, 0, ⟨#[]⟩⟩, ⟨la, 0, ca⟩, ⟨pa, 0, cp⟩))
             have HB3 := Lib.hid hb3
             clear hb3)
           try (
             have hb3 : w3.heap[w2.heap.size]? = some (.cells #[.int .i64 0, .int .i64 0, .string ⟨#[]⟩, .int .i64 0, .int .i64 0, .int .i64 0, .int .i64 0, .int .i64 0, .slice none 0 0, .slice none 0 0, .string ⟨#[]⟩, .int .i64 0, .string ⟨#[]⟩] 37 (0, 0)) := (hex.block w2.heap.size (by simp) (by simp)).trans (heap_alloc_new _ _)
             have hst : (rowStore 37 ⟨w2.heap.size, 0, none⟩ (.agg #[.int .i64 me, .int .i64 ((m' : Nat) : Int), .string ⟨#[]⟩, .int .i64 t, .int .i64 kind, .int .i64 a, .int .i64 0, .int .i64 0, .slice la 0 ca, .slice pa 0 cp, .string ⟨#[]⟩, .int .i64 0, .string ⟨#[]⟩])).run Tryz.prog w3 = .ok () (w3.setRow w2.heap.size #[.int .i64 me, .int .i64 ((m' : Nat) : Int), .string ⟨#[]⟩, .int .i64 t, .int .i64 kind, .int .i64 a, .int .i64 0, .int .i64 0, .slice la 0 ca, .slice pa 0 cp, .string ⟨#[]⟩, .int .i64 0, .string ⟨#[]⟩]) := run_rowStore (P := Tryz.prog) w3 w2.heap.size 37 37 #[.int .i64 0, .int .i64 0, .string ⟨#[]⟩, .int .i64 0, .int .i64 0, .int .i64 0, .int .i64 0, .int .i64 0, .slice none 0 0, .slice none 0 0, .string ⟨#[]⟩, .int .i64 0, .string ⟨#[]⟩] #[.int .i64 me, .int .i64 ((m' : Nat) : Int), .string ⟨#[]⟩, .int .i64 t, .int .i64 kind, .int .i64 a, .int .i64 0, .int .i64 0, .slice la 0 ca, .slice pa 0 cp, .string ⟨#[]⟩, .int .i64 0, .string ⟨#[]⟩] hb3 Tryz.sizeStv rfl (stV_one (⟨me, ((m' : Nat) : Int), ⟨#[]⟩, t, kind, a, 0, 0, [], [], ⟨#[]⟩, 0, ⟨#[]⟩⟩, ⟨la, 0, ca⟩, ⟨pa, 0, cp⟩))
             have HB3 := Lib.hid hb3
             clear hb3)
           have HE3 : Hid (Ex w1.heap.size none w1 w3) := Lib.hid (Ex.thenW (by first | exact HE3.out | exact HE3.out.drew | exact HE3.out.alloc HE3.out.size _ | exact HE2.out | exact HE2.out.drew | exact HE2.out.alloc HE2.out.size _ | exact (Ex.refl w1.heap.size none w1) | exact (Ex.refl w1.heap.size none w1).drew | exact (Ex.refl w1.heap.size none w1).alloc (Nat.le_refl _) _ | exact ((Ex.refl w1.heap.size none w1).alloc (Nat.le_refl _) _).drew | exact (Ex.refl w1.heap.size none w1).drew.alloc (Nat.le_refl _) _) hex)
           have HZ23 : Hid (w2.heap.size ≤ w3.heap.size) := Lib.hid (by have := hex.size; first | omega | (simp at this; omega))
           clear hlp hex c0 c1 c2 c3 c4 c5 c6 c7
           obtain ⟨c0, c1, c2, c3, c4, c5, c6, c7⟩ := HQ.out _ (HE1.out.thenW HE3.out)))
    all_goals go_wp2_with (fail)
    all_goals go_meet
    all_goals first
      | exact ⟨w3.heap.size, (⟨me, ((m' : Nat) : Int), ⟨#[]⟩, t, kind, a, 0, 0, [], [], ⟨#[]⟩, 0, ⟨#[]⟩⟩, ⟨la, 0, ca⟩, ⟨pa, 0, cp⟩), rfl, rfl, heap_alloc_new w3 _, by have h1 := HZ12.out; have h2 := HZ23.out; omega, fun P W' => lies_empty rfl rfl _ _ _ _ P W', HE3.out.alloc HE3.out.size _⟩
      | exact ⟨w2.heap.size, (⟨me, ((m' : Nat) : Int), ⟨#[]⟩, t, kind, a, 0, 0, [], [], ⟨#[]⟩, 0, ⟨#[]⟩⟩, ⟨la, 0, ca⟩, ⟨pa, 0, cp⟩), rfl, rfl, setRow_heap _ _ _ _ _ _ HB3.out, by have := HZ12.out; omega, fun P W' => lies_empty rfl rfl _ _ _ _ P W', HE3.out.setRow _ _ (.inr HE2.out.size)⟩
      | exact ⟨w1.heap.size, (⟨me, ((m' : Nat) : Int), ⟨#[]⟩, t, kind, a, 0, 0, [], [], ⟨#[]⟩, 0, ⟨#[]⟩⟩, ⟨la, 0, ca⟩, ⟨pa, 0, cp⟩), rfl, rfl, setRow_heap _ _ _ _ _ _ HB3.out, Nat.le_refl _, fun P W' => lies_empty rfl rfl _ _ _ _ P W', HE3.out.setRow _ _ (.inr (Nat.le_refl _))⟩
  case rest =>
    rename World => w4
    obtain ⟨g, x, rfl, hxs, hbx, hgl, hlx, hex4⟩ := hcut
    have HXS := Lib.hid hxs
    have HBX := Lib.hid hbx
    have HLX := Lib.hid hlx
    have HE14 := Lib.hid hex4
    have HE4 : Hid (Ex ws.heap.size none ws w4) := Lib.hid (HE1.out.thenW hex4)
    have hz4 : g < w4.heap.size := (Array.getElem?_eq_some_iff.1 hbx).1
    clear hxs hbx hlx hex4
    cases m' with
    | zero =>
      have HSX0 : Hid (x.1 = wrS me kind a t l 0) := Lib.hid HXS.out
      have HTW : Hid (Tame x.1) := Lib.hid (by rw [HSX0.out]; exact checkI_tame HCK.out)
      have HLW : Hid (∀ P W', Lies P W' x) := HLX
      have HLL : Hid (x.1.list.length ≤ 9223372036854775807 ∧ x.1.pins.length ≤ 9223372036854775807) := Lib.hid (by have h1 := HTW.out.list; have h2 := HTW.out.pins; omega)
      have HQ8 : Hid (∀ w', Ex w4.heap.size none w4 w' → (rowLoad 37 ⟨g, 0, none⟩).run Tryz.prog w' = .ok (stV x) w') := Lib.hid (fun w' h => stV_box ((h.block g (Array.getElem?_eq_some_iff.1 HBX.out).1 (by simp)).trans HBX.out))
      have r8 := HQ8.out _ (Ex.refl _ _ w4)
      go_upto_region 11 with (first
        | (go_at_call 39
           refine (check_v (P := fun _ => True) x w4 (HLW.out _ _) HLL.out).mono ?_
           rintro e w9 ⟨he9, hex⟩
           rw [HSX0.out, HCK.out] at he9
           subst he9
           have HE9 : Hid (Ex w4.heap.size none w4 w9) := Lib.hid hex
           clear hex r8
           have r8 := HQ8.out _ HE9.out)
        | fail)
      have hzW : ws.heap.size ≤ w4.heap.size := HE4.out.size
      have hz9 : w4.heap.size ≤ w9.heap.size := HE9.out.size
      go_wp2_with (first
        | (go_at_call 40
           refine (sealP_v (P := fun _ => True) x w9 (HLW.out _ _) HTW.out).mono ?_
           rintro e w10 ⟨y, rfl, hy, hly, hex⟩
           have HY : Hid (y.1 = sealS (wrS me kind a t l 0) ∧ Lies (fun b => w9.heap.size ≤ b) w10 y) := Lib.hid ⟨by rw [hy, HSX0.out], hly⟩
           have HE10 : Hid (Ex ws.heap.size none ws w10) := Lib.hid (HE4.out.thenW (HE9.out.thenW hex))
           have hb10 : w10.heap[w.heap.size + 1 + 1]? = some (.cells #[.int .i64 0, .int .i64 0, .string ⟨#[]⟩, .int .i64 0, .int .i64 0, .int .i64 0, .int .i64 0, .int .i64 0, .slice none 0 0, .slice none 0 0, .string ⟨#[]⟩, .int .i64 0, .string ⟨#[]⟩] 37 (0, 0)) := (HE10.out.block (w.heap.size + 1 + 1) (by omega) (by simp)).trans HBs.out.2.2
           have hst : (rowStore 37 ⟨w.heap.size + 1 + 1, 0, none⟩ (stV y)).run Tryz.prog w10 = .ok () (w10.setRow (w.heap.size + 1 + 1) (stV y).cells) := run_rowStore (P := Tryz.prog) w10 (w.heap.size + 1 + 1) 37 37 #[.int .i64 0, .int .i64 0, .string ⟨#[]⟩, .int .i64 0, .int .i64 0, .int .i64 0, .int .i64 0, .int .i64 0, .slice none 0 0, .slice none 0 0, .string ⟨#[]⟩, .int .i64 0, .string ⟨#[]⟩] (stV y).cells hb10 Tryz.sizeStv rfl (stV_one y)
           have HB10 := Lib.hid hb10
           clear hb10 hy hly hex r8)
        | fail)
      rename_i cs heq
      obtain rfl : cs = (stV y).cells := by rw [heq]; rfl
      have r12 : (rowLoad 37 ⟨w.heap.size + 1 + 1, 0, none⟩).run Tryz.prog (w10.setRow (w.heap.size + 1 + 1) (stV y).cells) = .ok (stV y) (w10.setRow (w.heap.size + 1 + 1) (stV y).cells) := stV_box (setRow_heap _ _ _ _ _ _ HB10.out)
      refine bodyPost_ret (v := .tuple #[stV y, .int .i64 0]) (results_stv rfl _ _ (by rfl) (by rfl) r12) rfl ?_
      exact ⟨y, rfl, HY.out.1, (HY.out.2.keep fun b hb _ => setRow_other _ _ _ _ (by omega)).mono fun b hb _ => by omega, (HEs.out.trans HE10.out (by omega) (by simp)).setRow _ _ (.inr (by omega))⟩

    | succ j =>
      have HJ : Hid (j < l.length) := Lib.hid (by have h1 := HMK.out; have h2 := HN.out; omega)
      have hs4 : SlAt stRep (fun q => ws.heap.size ≤ q ∧ q < w1.heap.size) w4 ro (l.take (j + 1)) := (HS1.out.mono (by decide) fun b hb hlt => (⟨hb, hlt⟩ : ws.heap.size ≤ b ∧ b < w1.heap.size)).keep (by decide) fun b hb _ => HE14.out.block b hb.2 (by simp)
      obtain ⟨b0, off0, z, hao, _, hbl, HZs, hlz, HLDz⟩ := stv_get hs4 j (by rw [List.length_take]; have := HJ.out; omega)
      have HZ : Hid (z.1 = l.getD j default ∧ z.1 ∈ l) := Lib.hid (by
        have h := HZs.out
        rw [List.getElem?_take_of_lt (by omega)] at h
        exact ⟨by rw [List.getD_eq_getElem?_getD, h]; rfl, List.mem_of_getElem? h⟩)
      have HTZ : Hid (Tame z.1) := Lib.hid (checkI_tame (validB_mem HVL.out _ HZ.out.2).1)
      have HAO := Lib.hid hao
      subst hao
      have HLZ : Hid (∀ w', Ex w4.heap.size none w4 w' → Lies (fun _ => True) w' z) := Lib.hid (fun w' h => (hlz.keep fun q hq hlt => h.block q hlt (by simp)).mono fun _ _ _ => trivial)
      have hld := HLDz.out w4 rfl
      have hnewz := stV_new w4 #[.int .i64 0, .int .i64 0, .string ⟨#[]⟩, .int .i64 0, .int .i64 0, .int .i64 0, .int .i64 0, .int .i64 0, .slice none 0 0, .slice none 0 0, .string ⟨#[]⟩, .int .i64 0, .string ⟨#[]⟩] z rfl
      have hj1 : j ≤ 1000 := by have h1 := HJ.out; have h2 := HN.out; omega
      have i1 : ((j + 1 : Nat) : Int) - 1 = (j : Int) := by omega
      have i2 : (0 : Int) < ((j + 1 : Nat) : Int) := by omega
      have i3 : (j : Int) < ((j + 1 : Nat) : Int) := by omega
      clear hs4 hlz
      go_upto_region 7 with (fail)
      refine wp_world (fun W => W = w4.alloc (.cells (stV z).cells 37)) rfl (fun w5 hw5 => ?_)
      have HE5 : Hid (Ex w4.heap.size none w4 w5) := Lib.hid (by rw [hw5]; exact Ex.new w4 _)
      have HBZ : Hid (w5.heap[w4.heap.size]? = some (.cells (stV z).cells 37 (0, 0))) := Lib.hid (by rw [hw5]; exact heap_alloc_new w4 _)
      have hz5 : w4.heap.size < w5.heap.size := by rw [hw5]; simp
      have HBX5 : Hid (w5.heap[g]? = some (.cells (stV x).cells 37 (0, 0))) := Lib.hid ((HE5.out.block g hz4 (by simp)).trans HBX.out)
      clear hw5 hld hnewz
      have HQ7 : Hid (∀ w', Ex w5.heap.size none w5 w' → (rowLoad 37 ⟨w4.heap.size, 0, none⟩).run Tryz.prog w' = .ok (stV z) w' ∧ w'.cell? ⟨w4.heap.size, 3, none⟩ = some (.int .i64 z.1.time) ∧ w'.cell? ⟨g, 2, none⟩ = some (.string x.1.prev) ∧ w'.cell? ⟨g, 3, none⟩ = some (.int .i64 x.1.time) ∧ w'.frozen? ⟨g, 2, none⟩ = false ∧ w'.frozen? ⟨g, 3, none⟩ = false) := Lib.hid (fun w' h => by
        have k0 := (h.block w4.heap.size hz5 (by simp)).trans HBZ.out
        have k1 := (h.block g (by omega) (by simp)).trans HBX5.out
        exact ⟨stV_box k0, by rw [cell_of_row _ _ _ _ _ _ k0]; rfl, by rw [cell_of_row _ _ _ _ _ _ k1]; rfl, by rw [cell_of_row _ _ _ _ _ _ k1]; rfl, by simp [World.frozen?, k1], by simp [World.frozen?, k1]⟩)
      obtain ⟨d, hd⟩ : ∃ d, d = sha (stB z.1) := ⟨_, rfl⟩
      obtain ⟨tm, htm⟩ : ∃ tm, tm = max t z.1.time := ⟨_, rfl⟩
      obtain ⟨tz, htz⟩ : ∃ tz, tz = z.1.time := ⟨_, rfl⟩
      have HD := Lib.hid hd
      have HTM := Lib.hid htm
      have HDG : Hid (∀ w', Ex w5.heap.size none w5 w' → Calls Tryz.prog 38 #[stV z] w' fun e w'' => e = .returned (.string d) ∧ Ex w'.heap.size none w' w'') := Lib.hid (fun w' h => by rw [HD.out]; exact digest_v z w' (HLZ.out _ (HE5.out.thenW h)) HTZ.out)
      clear hd htm htz
      obtain ⟨r1, r2, r3, r4, f3, f4⟩ := HQ7.out _ (Ex.refl _ _ w5)
      have HQZ : Hid (∀ w', w'.heap[w4.heap.size]? = some (.cells (stV z).cells 37 (0, 0)) → (rowLoad 37 ⟨w4.heap.size, 0, none⟩).run Tryz.prog w' = .ok (stV z) w' ∧ w'.cell? ⟨w4.heap.size, 3, none⟩ = some (.int .i64 z.1.time)) := Lib.hid (fun w' h => ⟨stV_box h, by rw [cell_of_row _ _ _ _ _ _ h]; rfl⟩)
      have hgz : w4.heap.size ≠ g := by omega
      have HTM2 : Hid (max t z.1.time = tm) := Lib.hid HTM.out.symm
      go_cut [] from 54 to 61 (fun W => WrSet w5 g x d tm W)
      case first =>
        go_region_held3 (fun w' => (rowLoad 37 ⟨w4.heap.size, 0, none⟩).run Tryz.prog w' = .ok (stV z) w' ∧ w'.cell? ⟨w4.heap.size, 3, none⟩ = some (.int .i64 z.1.time)) (first | exact HQZ.out _ ((HE6.out.block _ hz5 (by simp)).trans HBZ.out) | exact HQZ.out _ ((Below.heap_setCell _ _ _ _ hgz).trans ((HE6.out.block _ hz5 (by simp)).trans HBZ.out)) | exact HQZ.out _ ((Below.heap_setCell _ _ _ _ hgz).trans ((Below.heap_setCell _ _ _ _ hgz).trans ((HE6.out.block _ hz5 (by simp)).trans HBZ.out))) | exact HQZ.out w5 HBZ.out | exact HQZ.out w5.drew HBZ.out)
          (first
            | (go_at_call 38
               refine (HDG.out _ (by first | exact (Ex.refl _ _ w5) | exact (Ex.refl _ _ w5).drew)).mono ?_
               rintro e w6 ⟨rfl, hex⟩
               have HE6 : Hid (Ex w5.heap.size none w5 w6) := Lib.hid ((by first | exact (Ex.refl _ _ w5) | exact (Ex.refl _ _ w5).drew : Ex w5.heap.size none w5 _).thenW hex)
               clear hex r1 r2 r3 r4 f3 f4
               obtain ⟨r1, r2, r3, r4, f3, f4⟩ := HQ7.out _ HE6.out)
            | fail)
        all_goals go_wp2_with (fail)
        all_goals go_meet
        all_goals
          refine ⟨?_, w6, HE6.out, ((Ex.refl g none w6).setCell 2 none _ (.inr (Nat.le_refl _))).setCell 3 none _ (.inr (Nat.le_refl _))⟩
          rw [HTM2.out, heap_setCell_same _ _ _ _ _ _ (heap_setCell_same _ _ _ _ _ _ ((HE6.out.block g (by omega) (by simp)).trans HBX5.out))]
          rfl
      case rest =>
        rename World => w7
        obtain ⟨hb7, w6, he6, he67⟩ := hcut
        have HB7 := Lib.hid hb7
        have HE7 : Hid (Ex ws.heap.size none ws w7) := Lib.hid ((HE4.out.thenW (HE5.out.thenW he6)).trans he67 (by omega) (by simp))
        have HS7 : Hid ((({x.1 with prev := d, time := tm}, x.2) : St × Sv × Sv).1 = wrS me kind a t l (j + 1)) := Lib.hid (by
          show ({x.1 with prev := d, time := tm} : St) = _
          rw [HXS.out, HD.out, HTM.out, HZ.out.1]
          rfl)
        obtain ⟨x2, hx2⟩ : ∃ x2 : St × Sv × Sv, x2 = ({x.1 with prev := d, time := tm}, x.2) := ⟨_, rfl⟩
        have HLX2 : Hid (∀ P W', Lies P W' x2) := Lib.hid (fun P W' => by rw [hx2]; exact HLX.out P W')
        rw [← hx2] at HB7 HS7
        clear hx2 hb7 he6 he67 r1 r2 r3 r4 f3 f4
        have HTW : Hid (Tame x2.1) := Lib.hid (by rw [HS7.out]; exact checkI_tame HCK.out)
        have HLW : Hid (∀ P W', Lies P W' x2) := HLX2
        have HLL : Hid (x2.1.list.length ≤ 9223372036854775807 ∧ x2.1.pins.length ≤ 9223372036854775807) := Lib.hid (by have h1 := HTW.out.list; have h2 := HTW.out.pins; omega)
        have HQ8 : Hid (∀ w', Ex w7.heap.size none w7 w' → (rowLoad 37 ⟨g, 0, none⟩).run Tryz.prog w' = .ok (stV x2) w') := Lib.hid (fun w' h => stV_box ((h.block g (Array.getElem?_eq_some_iff.1 HB7.out).1 (by simp)).trans HB7.out))
        have r8 := HQ8.out _ (Ex.refl _ _ w7)
        go_upto_region 11 with (first
          | (go_at_call 39
             refine (check_v (P := fun _ => True) x2 w7 (HLW.out _ _) HLL.out).mono ?_
             rintro e w9 ⟨he9, hex⟩
             rw [HS7.out, HCK.out] at he9
             subst he9
             have HE9 : Hid (Ex w7.heap.size none w7 w9) := Lib.hid hex
             clear hex r8
             have r8 := HQ8.out _ HE9.out)
          | fail)
        have hzW : ws.heap.size ≤ w7.heap.size := HE7.out.size
        have hz9 : w7.heap.size ≤ w9.heap.size := HE9.out.size
        go_wp2_with (first
          | (go_at_call 40
             refine (sealP_v (P := fun _ => True) x2 w9 (HLW.out _ _) HTW.out).mono ?_
             rintro e w10 ⟨y, rfl, hy, hly, hex⟩
             have HY : Hid (y.1 = sealS (wrS me kind a t l (j + 1)) ∧ Lies (fun b => w9.heap.size ≤ b) w10 y) := Lib.hid ⟨by rw [hy, HS7.out], hly⟩
             have HE10 : Hid (Ex ws.heap.size none ws w10) := Lib.hid (HE7.out.thenW (HE9.out.thenW hex))
             have hb10 : w10.heap[w.heap.size + 1 + 1]? = some (.cells #[.int .i64 0, .int .i64 0, .string ⟨#[]⟩, .int .i64 0, .int .i64 0, .int .i64 0, .int .i64 0, .int .i64 0, .slice none 0 0, .slice none 0 0, .string ⟨#[]⟩, .int .i64 0, .string ⟨#[]⟩] 37 (0, 0)) := (HE10.out.block (w.heap.size + 1 + 1) (by omega) (by simp)).trans HBs.out.2.2
             have hst : (rowStore 37 ⟨w.heap.size + 1 + 1, 0, none⟩ (stV y)).run Tryz.prog w10 = .ok () (w10.setRow (w.heap.size + 1 + 1) (stV y).cells) := run_rowStore (P := Tryz.prog) w10 (w.heap.size + 1 + 1) 37 37 #[.int .i64 0, .int .i64 0, .string ⟨#[]⟩, .int .i64 0, .int .i64 0, .int .i64 0, .int .i64 0, .int .i64 0, .slice none 0 0, .slice none 0 0, .string ⟨#[]⟩, .int .i64 0, .string ⟨#[]⟩] (stV y).cells hb10 Tryz.sizeStv rfl (stV_one y)
             have HB10 := Lib.hid hb10
             clear hb10 hy hly hex r8)
          | fail)
        rename_i cs heq
        obtain rfl : cs = (stV y).cells := by rw [heq]; rfl
        have r12 : (rowLoad 37 ⟨w.heap.size + 1 + 1, 0, none⟩).run Tryz.prog (w10.setRow (w.heap.size + 1 + 1) (stV y).cells) = .ok (stV y) (w10.setRow (w.heap.size + 1 + 1) (stV y).cells) := stV_box (setRow_heap _ _ _ _ _ _ HB10.out)
        refine bodyPost_ret (v := .tuple #[stV y, .int .i64 0]) (results_stv rfl _ _ (by rfl) (by rfl) r12) rfl ?_
        exact ⟨y, rfl, HY.out.1, (HY.out.2.keep fun b hb _ => setRow_other _ _ _ _ (by omega)).mono fun b hb _ => by omega, (HEs.out.trans HE10.out (by omega) (by simp)).setRow _ _ (.inr (by omega))⟩

end Go.Proofs.YtaakacahblndcaaGreat

/- chain.Counted: a contract, no statement of the seat. | store.Height; slices.IndexFunc and slices.ContainsFunc at statements; the tests of store.Pins; store.pinned. No statement of the seat. | store.Pins: a contract, no statement of the seat. | chain.back's iterator: a contract for whatever rounds, and the plain words of chain.Branch. No statement of the seat. | A range over chain.back's iterator, whatever its body: a law. No statement of the seat. | slices.Reverse at statements, over whatever program that bears it: a contract, after the guide's walk at numbers. No statement of the seat. -/
import Derived.Test.YtdifcnhhcinonaaGreatMg09
import Derived.Test.YtdifcnhhcinonaaGreatMg08
import Derived.Test.YtdifcnhhcinonaaGreatMg03
import Derived.Deep.Cut
import Derived.Deep.CutRange
import Derived.Test.YtdifcnhhcinonaaGreatMg04
import Derived.Test.YtdifcnhhcinonaaGreatCheckPG
import Derived.Test.YtdifcnhhcinonaaGreatMg07
import Derived.IntWalk
import Derived.Test.YtdifcnhhcinonaaGreatMg01
import Derived.StringKeys
import Derived.Maps.OwnIn
import Derived.RangeFuncNested
import Derived.RangeFuncBound
import Derived.RangeFuncCalls
import Derived.RangeFuncLeaves
import Derived.Shelf.Abstract
import Derived.Shelf.RegionOpen
import Derived.OwnWalkIn
import Derived.TacticsInMore
import Derived.LoopNIn
import Derived.LoopIn
import Derived.Test.YtdifcnhhcinonaaGreatMg02
import Derived.Test.YtdifcnhhcinonaaGreatRows
import Derived.Test.YtdifcnhhcinonaaGreatMg00
import Derived.Lib.SlicesMore
import Derived.Deep.LoopGhost
namespace Go.Proofs.YtdifcnhhcinonaaGreat
open Go.RowKit Go.Sort
attribute [local go_sem ↓] rowLoad_stv rowStore_stv rowBuild_stv rowLoad_lkv rowStore_lkv

/-- No other link has the number of the one at a place. -/
def aloneL (ls : List St) (k : Nat) (x : St) : Bool := decide (k + 1 = ls.length) || (match ls[k + 1]? with
  | none => true
  | some z => z.number != x.number)
/-- The link follows the one ahead, which is no resignation. -/
def behindL (ls : List St) (x : St) : Nat → Bool
  | 0 => true
  | j + 1 => match ls[j]? with
    | none => true
    | some y => followsL y x && y.kind != 3
/-- The link at a place counts where those ahead of it do. -/
def countsAt (ls : List St) (k : Nat) : Bool := match ls[k]? with
  | none => false
  | some x => aloneL ls k x && decide (x.number = (k : Int)) && behindL ls x k
/-- How many links count. -/
def countN (ls : List St) : Nat := ((List.range ls.length).takeWhile fun k => countsAt ls k).length
theorem takeWhile_len (p : Nat → Bool) : ∀ (n k : Nat), (∀ j, j < k → p j = true) → (k = n ∨ (k < n ∧ p k = false)) → ((List.range n).takeWhile p).length = k := by
  intro n k h1 h2
  have hk : k ≤ n := by omega
  have e : List.range n = List.range k ++ (List.range (n - k)).map (k + ·) := by
    rw [← List.range_add]; congr 1; omega
  rw [e, List.takeWhile_append_of_pos (fun x hx => h1 x (List.mem_range.1 hx)), List.length_append, List.length_range]
  rcases h2 with rfl | ⟨h3, h4⟩
  · simp
  · obtain ⟨m, hm⟩ : ∃ m, n - k = m + 1 := ⟨n - k - 1, by omega⟩
    rw [hm, List.range_succ_eq_map, List.map_cons, List.takeWhile_cons]
    simp [h4]
theorem countN_at {ls : List St} {k : Nat} (h1 : ∀ j, j < k → countsAt ls j = true) (hk : k < ls.length) (h2 : countsAt ls k = false) : countN ls = k := takeWhile_len _ _ _ h1 (.inr ⟨hk, h2⟩)
theorem countN_end {ls : List St} (h1 : ∀ j, j < ls.length → countsAt ls j = true) : countN ls = ls.length := takeWhile_len _ _ _ h1 (.inl rfl)
theorem countsAt_eq {ls : List St} {k : Nat} {x : St} (h : ls[k]? = some x) : countsAt ls k = (aloneL ls k x && decide (x.number = (k : Int)) && behindL ls x k) := by
  simp only [countsAt, h]
theorem behindL_succ {ls : List St} {x y : St} {j : Nat} (h : ls[j]? = some y) : behindL ls x (j + 1) = (followsL y x && y.kind != 3) := by simp only [behindL, h]
theorem aloneL_last {ls : List St} {x : St} {k : Nat} (h : k + 1 = ls.length) : aloneL ls k x = true := by simp [aloneL, h]
theorem aloneL_next {ls : List St} {x z : St} {k : Nat} (h : k + 1 < ls.length) (hz : ls[k + 1]? = some z) : aloneL ls k x = (z.number != x.number) := by
  simp only [aloneL, hz]
  rw [decide_eq_false (by omega), Bool.false_or]
theorem take_snocS {ls : List St} {k : Nat} {x : St} (h : ls[k]? = some x) : ls.take (k + 1) = ls.take k ++ [x] := by
  rw [List.take_add_one, h]; rfl
theorem counts_succ {ls : List St} {k : Nat} (h : ∀ j, j < k → countsAt ls j = true) (hk : countsAt ls k = true) : ∀ j, j < k + 1 → countsAt ls j = true := fun j hj => by
  by_cases e : j = k
  · rw [e]; exact hk
  · exact h j (by omega)
theorem numB_le {s : St} (h : checkI s = 0) : 0 ≤ s.number ∧ s.number ≤ 200 := by
  have := (checkI_right h).num
  simp only [numB, Bool.and_eq_true] at this
  have := inB_iff.1 this.1.1.1.1.1
  omega

set_option maxHeartbeats 8000000 in
set_option maxRecDepth 100000 in
theorem countedP_any {P : Nat → Prop} (a : Int) (v : Value) (l : List St) (w : World) (hv : Sl stRep P w v l) (hm : l.length ≤ 100000) (hL : LightL 9223372036854775807 l) :
    Calls Tryz.prog 119 #[.int .i64 a, v] w fun e w' => ∃ ls ro n rc, LinksR a l ls ∧ e = .returned (.slice ro n rc) ∧ n = countN ls ∧ OwnS w' w.heap.size ro rc (ls.take (countN ls)) ∧ Ex w.heap.size none w w' := by
  have HV := Lib.hid hv
  have HLL := Lib.hid hL
  clear hv hL
  go_enter Tryz.func119, Tryz.ntmps119
  go_wp2_with (first
    | (go_at_call 170
       refine (links_any v l a w HV.out hm HLL.out).mono ?_
       rintro e w1 ⟨u, ls, rfl, hls, hsl, hln, hex⟩
       obtain ⟨ao, cap, rfl, hsl⟩ := hsl
       obtain ⟨m, hm0⟩ : ∃ m, m = ls.length := ⟨_, rfl⟩
       rw [← hm0]
       have HM := Lib.hid hm0.symm
       have HLS := Lib.hid hls
       have HSL : Hid (∀ w', Ex w1.heap.size none w1 w' → SlAt linkRep (fun b => P b ∨ w.heap.size ≤ b) w' ao ls) := Lib.hid (fun w' h => hsl.keep (by decide) fun b _ hb => h.block b hb (by simp))
       have HE1 := Lib.hid hex
       have hz1 : w.heap.size ≤ w1.heap.size := hex.size
       have hm5 : m ≤ 100000 := by omega
       clear hls hsl hex hm0 hln)
    | fail)
  go_loopw [6, 15] (fun v i wr => ∃ (k : Nat) (ro : Option Addr) (rc : Nat) (acc : List St), k ≤ m ∧ i = .int .i64 k ∧ v = .slice ro k rc ∧ Hid (acc = ls.take k ∧ acc.length = k ∧ ∀ j, j < k → countsAt ls j = true) ∧ Hid (OwnS wr w1.heap.size ro rc acc) ∧ Ex w1.heap.size none w1 wr) (fun _ i _ => m - (intOf i).toNat)
  case atStart => exact ⟨0, none, 0, [], by omega, rfl, rfl, Lib.hid ⟨by simp, rfl, fun j hj => by omega⟩, Lib.hid (OwnS.nil _ _), Ex.refl _ _ _⟩
  case round =>
    obtain ⟨k, ro, rc, acc, hk, rfl, rfl, HA, HO, hex0⟩ := hrel
    have hsz0 := hex0.size
    have HE0 := Lib.hid hex0
    have HEX : Hid (Ex w.heap.size none w wr) := Lib.hid (HE1.out.trans hex0 hz1 (by simp))
    have hsz : w.heap.size ≤ wr.heap.size := by omega
    clear hex0
    by_cases hlt : k < m
    · have hltI : (k : Int) < (m : Int) := by omega
      obtain ⟨b, off, x, hao, _, hbl, HXs, hlx, HR⟩ := lkv_get (HSL.out wr HE0.out) k (by rw [HM.out]; exact hlt)
      subst hao
      have HOK := Lib.hid (okB_iff.1 (LinksR.ok HLS.out x.1 (List.mem_of_getElem? HXs.out)))
      have HNX := Lib.hid (numB_le HOK.out.2.1)
      have HTX := Lib.hid (checkI_tame HOK.out.2.1)
      have HLX := Lib.hid hlx
      have hld := linkV_load HR.out
      have hnew := linkV_new wr #[.int .i64 0, .int .i64 0, .string ⟨#[]⟩, .int .i64 0, .int .i64 0, .int .i64 0, .int .i64 0, .int .i64 0, .slice none 0 0, .slice none 0 0, .string ⟨#[]⟩, .int .i64 0, .string ⟨#[]⟩, .string ⟨#[]⟩] x rfl
      clear hlx
      go_upto_region 6 with (fail)
      refine wp_world (fun W => W = wr.alloc (.cells (linkV x).cells 192)) rfl (fun ws hws => ?_)
      have HEs : Hid (Ex wr.heap.size none wr ws) := Lib.hid (by rw [hws]; exact Ex.new wr _)
      have hzs : ws.heap.size = wr.heap.size + 1 := by rw [hws]; simp
      have HBs : Hid (ws.heap[wr.heap.size]? = some (.cells (linkV x).cells 192 (0, 0))) := Lib.hid (by rw [hws]; exact heap_alloc_new wr _)
      have HQ : Hid (∀ w', Ex ws.heap.size none ws w' → ((rowLoad 192 ⟨wr.heap.size, 0, none⟩).run Tryz.prog w' = .ok (linkV x) w' ∧ (rowLoad 28 ⟨wr.heap.size, 0, none⟩).run Tryz.prog w' = .ok (stV x) w') ∧ w'.cell? ⟨wr.heap.size, 1, none⟩ = some (.int .i64 x.1.number)) := Lib.hid (fun w' h => by
        have hb := (h.block wr.heap.size (by omega) (by simp)).trans HBs.out
        exact ⟨⟨linkV_box hb, linkV_st hb⟩, (linkV_cells5 hb).2.1⟩)
      have HLW : Hid (∀ w', Ex ws.heap.size none ws w' → Lies (fun b => P b ∨ w.heap.size ≤ b) w' x) := Lib.hid (fun w' h => HLX.out.keep fun b _ hb => (h.block b (by omega) (by simp)).trans (HEs.out.block b (by omega) (by simp)))
      clear hld hnew hws
      obtain ⟨al, hal⟩ : ∃ al, al = aloneL ls k x.1 := ⟨_, rfl⟩
      have HAL := Lib.hid hal
      clear hal
      go_cut [9] from 20 to 38 (fun u wx => u = .bool al ∧ Ex ws.heap.size none ws wx)
      case first =>
        by_cases t1 : k + 1 = m
        · have k1 : ((k : Int) + 1 == (m : Int)) = true := by simp; omega
          have hq := fun p0 : ExW ws => HQ.out p0.w' p0.ex
          refine wp_region_quiet_ex (by kernel_rfl) (by kernel_rfl) ?_
          repeat (go_big_quiet_step (fail))
          refine wpQuiet_nil ?_
          intro _ hw'
          obtain ⟨p9, hw''⟩ := hw'
          subst hw''
          have HE9 : Hid (Ex ws.heap.size none ws p9.w') := Lib.hid p9.ex
          clear hq
          go_wp2_with (fail)
          go_meet
          exact ⟨by rw [HAL.out, aloneL_last (by rw [HM.out]; exact t1)], HE9.out⟩
        · have k1 : ((k : Int) + 1 == (m : Int)) = false := by simp; omega
          have hk1 : (k : Int) + 1 < (m : Int) := by omega
          obtain ⟨b', off', z, hao', _, _, HZs, _, HRz⟩ := lkv_get (HSL.out wr HE0.out) (k + 1) (by rw [HM.out]; omega)
          cases hao'
          have HCz : Hid (∀ w', Ex ws.heap.size none ws w' → w'.cell? ⟨b, off + (k + 1) * 14 + 1, none⟩ = some (.int .i64 z.1.number)) := Lib.hid (fun w' h => (rangeAt_keep HRz.out ((h.block b (by omega) (by simp)).trans (HEs.out.block b (by omega) (by simp)))) 1 _ rfl)
          have hq := fun p0 : ExW ws => And.intro (HQ.out p0.w' p0.ex) (HCz.out p0.w' p0.ex)
          refine wp_region_quiet_ex (by kernel_rfl) (by kernel_rfl) ?_
          repeat (go_big_quiet_step (fail))
          refine wpQuiet_nil ?_
          intro _ hw'
          obtain ⟨p9, hw''⟩ := hw'
          subst hw''
          have HE9 : Hid (Ex ws.heap.size none ws p9.w') := Lib.hid p9.ex
          clear hq
          go_wp2_with (fail)
          go_meet
          exact ⟨by rw [HAL.out, aloneL_next (by rw [HM.out]; omega) HZs.out], HE9.out⟩
      case rest =>
        rename World => w6
        obtain ⟨rfl, hex6⟩ := hcut
        have HX6 : Hid (Ex ws.heap.size none ws w6) := Lib.hid hex6
        have hz6 : ws.heap.size ≤ w6.heap.size := hex6.size
        clear hex6
        go_upto_region 7 with (fail)
        have HQ6 : Hid (∀ w', Ex w6.heap.size none w6 w' → ((rowLoad 192 ⟨wr.heap.size, 0, none⟩).run Tryz.prog w' = .ok (linkV x) w' ∧ (rowLoad 28 ⟨wr.heap.size, 0, none⟩).run Tryz.prog w' = .ok (stV x) w') ∧ w'.cell? ⟨wr.heap.size, 1, none⟩ = some (.int .i64 x.1.number)) := Lib.hid (fun w' h => HQ.out w' (HX6.out.trans h hz6 (by simp)))
        cases al with
        | false =>
          have HNO : Hid (countN ls = k) := Lib.hid (countN_at HA.out.2.2 (by rw [HM.out]; exact hlt) (by rw [countsAt_eq HXs.out, ← HAL.out]; rfl))
          have hq := fun p0 : ExW w6 => HQ6.out p0.w' p0.ex
          refine wp_region_quiet_ex (by kernel_rfl) (by kernel_rfl) ?_
          repeat (go_big_quiet_step (fail))
          refine wpQuiet_nil ?_
          intro _ hw'
          obtain ⟨p9, hw''⟩ := hw'
          subst hw''
          have HE9 : Hid (Ex w6.heap.size none w6 p9.w') := Lib.hid p9.ex
          clear hq
          go_wp2
          go_ret
          exact ⟨ls, ro, k, rc, HLS.out, rfl, HNO.out.symm, by rw [HNO.out, ← HA.out.1]; exact (HO.out.keep ((HEs.out.trans HX6.out (by omega) (by simp)).trans HE9.out (by omega) (by simp)) (Nat.le_refl _)).lower hz1, (HEX.out.trans (HEs.out.trans HX6.out (by omega) (by simp)) hsz (by simp)).trans HE9.out (by omega) (by simp)⟩
        | true =>
          by_cases t2 : x.1.number = (k : Int)
          case neg =>
            have k2 : (x.1.number == (k : Int)) = false := by simpa using t2
            have k2b : (x.1.number != (k : Int)) = true := by simpa using t2
            have HNO : Hid (countN ls = k) := Lib.hid (countN_at HA.out.2.2 (by rw [HM.out]; exact hlt) (by rw [countsAt_eq HXs.out, decide_eq_false t2, Bool.and_false, Bool.false_and]))
            clear t2
            have hq := fun p0 : ExW w6 => HQ6.out p0.w' p0.ex
            refine wp_region_quiet_ex (by kernel_rfl) (by kernel_rfl) ?_
            repeat (go_big_quiet_step (fail))
            refine wpQuiet_nil ?_
            intro _ hw'
            obtain ⟨p9, hw''⟩ := hw'
            subst hw''
            have HE9 : Hid (Ex w6.heap.size none w6 p9.w') := Lib.hid p9.ex
            clear hq
            go_wp2
            go_ret
            exact ⟨ls, ro, k, rc, HLS.out, rfl, HNO.out.symm, by rw [HNO.out, ← HA.out.1]; exact (HO.out.keep ((HEs.out.trans HX6.out (by omega) (by simp)).trans HE9.out (by omega) (by simp)) (Nat.le_refl _)).lower hz1, (HEX.out.trans (HEs.out.trans HX6.out (by omega) (by simp)) hsz (by simp)).trans HE9.out (by omega) (by simp)⟩
          have k2 : (x.1.number == (k : Int)) = true := by simpa using t2
          have k2b : (x.1.number != (k : Int)) = false := by simpa using t2
          have HT2 := Lib.hid t2
          clear t2
          by_cases t3 : 0 < k
          case neg =>
            have k3 : decide (0 < (k : Int)) = false := decide_eq_false (by omega)
            have k4 : decide (0 < k) = false := decide_eq_false (by omega)
            have HYES : Hid (countsAt ls k = true) := Lib.hid (by
              obtain rfl : k = 0 := by omega
              rw [countsAt_eq HXs.out, ← HAL.out, decide_eq_true HT2.out]; rfl)
            clear t3
            have hq := fun p0 : ExW w6 => HQ6.out p0.w' p0.ex
            refine wp_region_quiet_ex (by kernel_rfl) (by kernel_rfl) ?_
            repeat (go_big_quiet_step (fail))
            refine wpQuiet_nil ?_
            intro _ hw'
            obtain ⟨p9, hw''⟩ := hw'
            subst hw''
            have HE9 : Hid (Ex w6.heap.size none w6 p9.w') := Lib.hid p9.ex
            clear hq
            generalize p9.w' = w7 at HE9 ⊢
            have hz7 : w6.heap.size ≤ w7.heap.size := HE9.out.size
            obtain ⟨⟨r1, r2⟩, r3⟩ := HQ6.out _ HE9.out
            go_wp2_with (first
              | (go_at_call 172
                 refine (copied_v x w7 (HLW.out _ (HX6.out.trans HE9.out hz6 (by simp))) (by have h1 := HTX.out.list; have h2 := HTX.out.pins; omega)).mono ?_
                 rintro e w8 ⟨y, rfl, hyx, hly, hex⟩
                 have HY : Hid (y.1 = x.1 ∧ Lies (fun b => w7.heap.size ≤ b) w8 y ∧ Ex w7.heap.size none w7 w8) := Lib.hid ⟨hyx, hly, hex⟩
                 have hz8 : w7.heap.size ≤ w8.heap.size := hex.size
                 have hlit := stV_lit w8 y
                 clear hyx hly hex)
              | (at_builtin; refine wpList_appT rfl (.tmp 71) (.tmp 75) _ (by rfl) Tryz.underlying22 Tryz.infoSt w1.heap.size w1.heap.size ro rc (k) acc HA.out.2.1 (by rfl) (some ⟨w8.heap.size, 0, none⟩) 1 1 (by rfl) [y] rfl (HO.out.t.keep (((HEs.out.trans HX6.out (by omega) (by simp)).trans (HE9.out.trans HY.out.2.2 hz7 (by simp)) (by omega) (by simp)).trans (Ex.new w8 _) (by omega) (by simp)) (Nat.le_refl _)) (lit_cells (by rfl)) (fun z hz => by
                   rw [List.mem_singleton.1 hz]
                   exact (HY.out.2.1.keep fun b _ hb => (Ex.new w8 _).block b hb (by simp)).mono fun b hb _ => ⟨by omega, fun e => by have := HO.out.t.row b e; omega⟩) (by omega) (by simp; omega) (k + 1) rfl ?_; intro ao2 cap2 w9 ho he hb hr)
              | fail)
            have H9 : Hid (OwnT w9 w1.heap.size w1.heap.size ao2 cap2 (acc ++ [x.1]) ∧ Ex w1.heap.size none w1 w9) := Lib.hid ⟨by have h := ho; rw [List.map_cons, List.map_nil, HY.out.1] at h; exact h, (HE0.out.trans (((HEs.out.trans HX6.out (by omega) (by simp)).trans (HE9.out.trans HY.out.2.2 hz7 (by simp)) (by omega) (by simp)).trans (Ex.new w8 _) (by omega) (by simp)) hsz0 (by simp)).trans he (Nat.le_refl _) (by simp)⟩
            clear ho he hb hr
            go_roundw
            case rel => exact ⟨k + 1, ao2, cap2, acc ++ [x.1], by omega, by go_num, rfl, Lib.hid ⟨by rw [HA.out.1, take_snocS HXs.out], by rw [List.length_append, HA.out.2.1]; rfl, counts_succ HA.out.2.2 HYES.out⟩, Lib.hid (H9.out.1.s (Nat.le_refl _)), H9.out.2⟩
            case measure => simp [intOf] <;> omega
          have k3 : decide (0 < (k : Int)) = true := decide_eq_true (by omega)
          have k4 : decide (0 < k) = true := decide_eq_true (by omega)
          obtain ⟨j, rfl⟩ : ∃ j, k = j + 1 := ⟨k - 1, by omega⟩
          have i1 : ((j + 1 : Nat) : Int) - 1 = (j : Int) := by omega
          have i1b : (j : Int) + 1 - 1 = (j : Int) := by omega
          have k3b : decide (0 < (j : Int) + 1) = true := decide_eq_true (by omega)
          have k2c : (x.1.number == (j : Int) + 1) = true := by have := HT2.out; simpa using this
          have k2d : (x.1.number != (j : Int) + 1) = false := by have := HT2.out; simpa using this
          have i2 : (j : Int) < (m : Int) := by omega
          obtain ⟨b', off', y, hao', _, _, HYs, _, HRy⟩ := lkv_get (HSL.out wr HE0.out) j (by rw [HM.out]; omega)
          cases hao'
          have HBy : Hid (∀ w', Ex w6.heap.size none w6 w' → w'.heap[b]? = wr.heap[b]?) := Lib.hid (fun w' h => (h.block b (by omega) (by simp)).trans ((HX6.out.block b (by omega) (by simp)).trans (HEs.out.block b (by omega) (by simp))))
          have HQy : Hid (∀ w', Ex w6.heap.size none w6 w' → (rowLoad 192 ⟨b, off + j * 14, none⟩).run Tryz.prog w' = .ok (linkV y) w' ∧ w'.cell? ⟨b, off + j * 14 + 4, none⟩ = some (.int .i64 y.1.kind)) := Lib.hid (fun w' h => ⟨linkV_load (rangeAt_keep HRy.out (HBy.out w' h)), (rangeAt_keep HRy.out (HBy.out w' h)) 4 _ rfl⟩)
          have HOy := Lib.hid (okB_iff.1 (LinksR.ok HLS.out y.1 (List.mem_of_getElem? HYs.out)))
          have HNy := Lib.hid (numB_le HOy.out.2.1)
          obtain ⟨fw, hfw⟩ : ∃ fw, fw = followsL y.1 x.1 := ⟨_, rfl⟩
          have HFW := Lib.hid hfw
          have HCF : Hid (∀ w', Calls Tryz.prog 171 #[linkV y, linkV x] w' fun e w'' => e = .returned (.bool fw) ∧ Ex w'.heap.size none w' w'') := Lib.hid (fun w' => by rw [hfw]; exact follows_v y x w' (by have := HNy.out; omega) (by have := HNX.out; omega))
          clear hfw
          cases fw with
          | false =>
            have HNO : Hid (countN ls = j + 1) := Lib.hid (countN_at HA.out.2.2 (by rw [HM.out]; exact hlt) (by rw [countsAt_eq HXs.out, behindL_succ HYs.out, ← HFW.out, Bool.false_and, Bool.and_false]))
            have hq := fun p0 : ExW w6 => And.intro (HQ6.out p0.w' p0.ex) (HQy.out p0.w' p0.ex)
            refine wp_region_quiet_ex (by kernel_rfl) (by kernel_rfl) ?_
            repeat (go_big_quiet_step ((go_at_call 171; refine calls_ex_of (HCF.out _))))
            refine wpQuiet_nil ?_
            intro _ hw'
            obtain ⟨p9, hw''⟩ := hw'
            subst hw''
            have HE9 : Hid (Ex w6.heap.size none w6 p9.w') := Lib.hid p9.ex
            clear hq
            go_wp2
            go_ret
            exact ⟨ls, ro, (j + 1), rc, HLS.out, rfl, HNO.out.symm, by rw [HNO.out, ← HA.out.1]; exact (HO.out.keep ((HEs.out.trans HX6.out (by omega) (by simp)).trans HE9.out (by omega) (by simp)) (Nat.le_refl _)).lower hz1, (HEX.out.trans (HEs.out.trans HX6.out (by omega) (by simp)) hsz (by simp)).trans HE9.out (by omega) (by simp)⟩
          | true =>
            by_cases t4 : y.1.kind = 3
            case pos =>
              have k5 : (y.1.kind == 3) = true := by simpa using t4
              have HNO : Hid (countN ls = j + 1) := Lib.hid (countN_at HA.out.2.2 (by rw [HM.out]; exact hlt) (by rw [countsAt_eq HXs.out, behindL_succ HYs.out, t4]; simp))
              clear t4
              have hq := fun p0 : ExW w6 => And.intro (HQ6.out p0.w' p0.ex) (HQy.out p0.w' p0.ex)
              refine wp_region_quiet_ex (by kernel_rfl) (by kernel_rfl) ?_
              repeat (go_big_quiet_step ((go_at_call 171; refine calls_ex_of (HCF.out _))))
              refine wpQuiet_nil ?_
              intro _ hw'
              obtain ⟨p9, hw''⟩ := hw'
              subst hw''
              have HE9 : Hid (Ex w6.heap.size none w6 p9.w') := Lib.hid p9.ex
              clear hq
              go_wp2
              go_ret
              exact ⟨ls, ro, (j + 1), rc, HLS.out, rfl, HNO.out.symm, by rw [HNO.out, ← HA.out.1]; exact (HO.out.keep ((HEs.out.trans HX6.out (by omega) (by simp)).trans HE9.out (by omega) (by simp)) (Nat.le_refl _)).lower hz1, (HEX.out.trans (HEs.out.trans HX6.out (by omega) (by simp)) hsz (by simp)).trans HE9.out (by omega) (by simp)⟩
            have k5 : (y.1.kind == 3) = false := by simpa using t4
            have HYES : Hid (countsAt ls (j + 1) = true) := Lib.hid (by
              have k6 : (y.1.kind != 3) = true := by simpa using t4
              rw [countsAt_eq HXs.out, ← HAL.out, decide_eq_true HT2.out, behindL_succ HYs.out, ← HFW.out, k6]; rfl)
            clear t4
            have hq := fun p0 : ExW w6 => And.intro (HQ6.out p0.w' p0.ex) (HQy.out p0.w' p0.ex)
            refine wp_region_quiet_ex (by kernel_rfl) (by kernel_rfl) ?_
            repeat (go_big_quiet_step ((go_at_call 171; refine calls_ex_of (HCF.out _))))
            refine wpQuiet_nil ?_
            intro _ hw'
            obtain ⟨p9, hw''⟩ := hw'
            subst hw''
            have HE9 : Hid (Ex w6.heap.size none w6 p9.w') := Lib.hid p9.ex
            clear hq
            generalize p9.w' = w7 at HE9 ⊢
            have hz7 : w6.heap.size ≤ w7.heap.size := HE9.out.size
            obtain ⟨⟨r1, r2⟩, r3⟩ := HQ6.out _ HE9.out
            go_wp2_with (first
              | (go_at_call 172
                 refine (copied_v x w7 (HLW.out _ (HX6.out.trans HE9.out hz6 (by simp))) (by have h1 := HTX.out.list; have h2 := HTX.out.pins; omega)).mono ?_
                 rintro e w8 ⟨y, rfl, hyx, hly, hex⟩
                 have HY : Hid (y.1 = x.1 ∧ Lies (fun b => w7.heap.size ≤ b) w8 y ∧ Ex w7.heap.size none w7 w8) := Lib.hid ⟨hyx, hly, hex⟩
                 have hz8 : w7.heap.size ≤ w8.heap.size := hex.size
                 have hlit := stV_lit w8 y
                 clear hyx hly hex)
              | (at_builtin; refine wpList_appT rfl (.tmp 71) (.tmp 75) _ (by rfl) Tryz.underlying22 Tryz.infoSt w1.heap.size w1.heap.size ro rc (j + 1) acc HA.out.2.1 (by rfl) (some ⟨w8.heap.size, 0, none⟩) 1 1 (by rfl) [y] rfl (HO.out.t.keep (((HEs.out.trans HX6.out (by omega) (by simp)).trans (HE9.out.trans HY.out.2.2 hz7 (by simp)) (by omega) (by simp)).trans (Ex.new w8 _) (by omega) (by simp)) (Nat.le_refl _)) (lit_cells (by rfl)) (fun z hz => by
                   rw [List.mem_singleton.1 hz]
                   exact (HY.out.2.1.keep fun b _ hb => (Ex.new w8 _).block b hb (by simp)).mono fun b hb _ => ⟨by omega, fun e => by have := HO.out.t.row b e; omega⟩) (by omega) (by simp; omega) (j + 1 + 1) rfl ?_; intro ao2 cap2 w9 ho he hb hr)
              | fail)
            have H9 : Hid (OwnT w9 w1.heap.size w1.heap.size ao2 cap2 (acc ++ [x.1]) ∧ Ex w1.heap.size none w1 w9) := Lib.hid ⟨by have h := ho; rw [List.map_cons, List.map_nil, HY.out.1] at h; exact h, (HE0.out.trans (((HEs.out.trans HX6.out (by omega) (by simp)).trans (HE9.out.trans HY.out.2.2 hz7 (by simp)) (by omega) (by simp)).trans (Ex.new w8 _) (by omega) (by simp)) hsz0 (by simp)).trans he (Nat.le_refl _) (by simp)⟩
            clear ho he hb hr
            go_roundw
            case rel => exact ⟨j + 1 + 1, ao2, cap2, acc ++ [x.1], by omega, by go_num, rfl, Lib.hid ⟨by rw [HA.out.1, take_snocS HXs.out], by rw [List.length_append, HA.out.2.1]; rfl, counts_succ HA.out.2.2 HYES.out⟩, Lib.hid (H9.out.1.s (Nat.le_refl _)), H9.out.2⟩
            case measure => simp [intOf] <;> omega
    · obtain rfl : k = m := by omega
      have HNO : Hid (countN ls = k) := Lib.hid (by rw [countN_end (fun j hj => HA.out.2.2 j (by rw [HM.out] at hj; exact hj)), HM.out])
      go_wp2
      go_ret
      exact ⟨ls, ro, k, rc, HLS.out, rfl, HNO.out.symm, by rw [HNO.out, ← HA.out.1]; exact HO.out.lower hz1, HEX.out⟩
end Go.Proofs.YtdifcnhhcinonaaGreat

namespace Go.Proofs.YtdifcnhhcinonaaGreat
open Go.RowKit Go.Sort
attribute [local go_sem ↓] rowLoad_stv rowStore_stv rowBuild_stv

theorem LightL.filterS {m : Nat} {l : List St} (h : LightL m l) (p : St → Bool) : LightL m (l.filter p) := fun s hs => h s (List.mem_filter.1 hs).1
theorem partN_any {P : Nat → Prop} (ao : Option Addr) (cap n0 : Nat) (l : List St) (a : Int) (w : World) (hn : l.length = n0) (hx : SlAt stRep P w ao l) (hm : l.length ≤ 100000) :
    Calls Tryz.prog 120 #[.agg #[.slice ao n0 cap], .int .i64 a] w fun e w' => ∃ u, e = .returned u ∧ Sl stRep (fun b => P b ∨ w.heap.size ≤ b) w' u (l.filter fun s => s.author == a) ∧ Ex w.heap.size none w w' := by
  subst hn
  exact part_any ao cap l a w hx hm
set_option maxHeartbeats 4000000 in
set_option maxRecDepth 100000 in
theorem heightP_any {P : Nat → Prop} (ao : Option Addr) (cap n0 : Nat) (l : List St) (a : Int) (w : World) (hn : l.length = n0) (hv : SlAt stRep P w ao l) (hm : l.length ≤ 100000) (hL : LightL 9223372036854775807 l) :
    Calls Tryz.prog 58 #[.agg #[.slice ao n0 cap], .int .i64 a] w fun e w' => ∃ ls, LinksR a (l.filter fun s => s.author == a) ls ∧ e = .returned (.int .i64 (countN ls)) ∧ Ex w.heap.size none w w' := by
  have HX := Lib.hid hv
  have HN := Lib.hid hn
  have HLL := Lib.hid hL
  clear hv hn hL
  obtain ⟨w0, hw0⟩ : ∃ w0 : World, w0 = w.alloc (.cells #[.slice ao n0 cap] 31) := ⟨_, rfl⟩
  have hz0 : w0.heap.size = w.heap.size + 1 := by rw [hw0]; simp
  have HE0 : Hid (Ex w.heap.size none w w0) := Lib.hid (by rw [hw0]; exact Ex.new w _)
  have d0 : w0.cell? ⟨w.heap.size, 0, none⟩ = some (.slice ao n0 cap) := by rw [hw0]; exact box_cell (heap_alloc_new w _)
  go_enter Tryz.func58, Tryz.ntmps58
  go_upto_region 1 with (fail)
  rw [← hw0]
  clear hw0
  go_wp2_with (first
    | (go_at_call 120
       refine (partN_any ao cap n0 l a w0 HN.out (HX.out.keep (by decide) fun b _ hb => HE0.out.block b hb (by simp)) hm).mono ?_
       rintro e w1 ⟨u, rfl, hu, hex⟩
       have HU := Lib.hid hu
       have HE1 : Hid (Ex w.heap.size none w w1) := Lib.hid (HE0.out.trans hex (by omega) (by simp))
       have hz1 : w.heap.size ≤ w1.heap.size := HE1.out.size
       clear hu hex d0)
    | (go_at_call 119
       refine (countedP_any a u _ w1 HU.out (Nat.le_trans (List.length_filter_le _ _) hm) (HLL.out.filterS _)).mono ?_
       rintro e w2 ⟨ls, ro, n, rc, hls, rfl, hn, hown, hex⟩
       have HLS := Lib.hid hls
       have HNC := Lib.hid hn
       have HE2 : Hid (Ex w.heap.size none w w2) := Lib.hid (HE1.out.trans hex hz1 (by simp))
       clear hls hn hown hex)
    | fail)
  go_ret
  exact ⟨ls, HLS.out, by rw [HNC.out]; rfl, HE2.out⟩

/-- What is asked of a test of statements that is handed in. -/
def TestV (f : Nat) (cb : Array Value) (w0 : World) (p : St → Bool) : Prop := ∀ (w : World) (x : St × Sv × Sv), Ex w0.heap.size none w0 w → Calls Tryz.prog f (#[stV x] ++ cb) w fun e w' => e = .returned (.bool (p x.1)) ∧ Ex w.heap.size none w w'
set_option maxHeartbeats 4000000 in
set_option maxRecDepth 100000 in
theorem indexSt_any {P : Nat → Prop} (v : Value) (l : List St) (f : Nat) (cb : Array Value) (p : St → Bool) (w : World) (hv : Sl stRep P w v l) (hm : l.length ≤ 100000)
    (ef : ∀ args w, (callFunc f args).run Tryz.prog w = .ok (.enter f args) w) (ht : TestV f cb w p) :
    Calls Tryz.prog 169 #[v, .func (.func f) #[] cb] w fun e w' => ∃ i : Int, e = .returned (.int .i64 i) ∧ decide (0 ≤ i) = l.any p ∧ Ex w.heap.size none w w' := by
  obtain ⟨ao, cap, rfl, hx⟩ := hv
  have HX : Hid (∀ w', Ex w.heap.size none w w' → SlAt stRep P w' ao l) := Lib.hid (fun w' h => hx.keep (by decide) fun b _ hb => h.block b hb (by simp))
  have HT := Lib.hid ht
  clear hx ht
  go_enter Tryz.func169, Tryz.ntmps169
  go_wp2
  go_loopw [8] (fun i wr => ∃ k : Nat, k ≤ l.length ∧ i = .int .i64 k ∧ Hid (∀ s ∈ l.take k, p s = false) ∧ Ex w.heap.size none w wr) (fun i _ => l.length - (intOf i).toNat)
  case atStart => exact ⟨0, by omega, rfl, Lib.hid (fun s hs => by simp at hs), Ex.refl _ _ _⟩
  case round =>
    obtain ⟨k, hk, rfl, HG, hex0⟩ := hrel
    have hsz0 := hex0.size
    have HEX := Lib.hid hex0
    clear hex0
    by_cases hlt : k < l.length
    · have hltI : (k : Int) < (l.length : Int) := by omega
      obtain ⟨b, off, x, hao, hPb, hbl, HXs, hls0, HLD⟩ := stv_get (HX.out wr HEX.out) k hlt
      subst hao
      have hld := HLD.out wr rfl
      have HTK : Hid (l.take (k + 1) = l.take k ++ [x.1]) := Lib.hid (take_snocS HXs.out)
      clear hls0
      cases hp : p x.1 with
      | false =>
        go_wp2_with fail
        refine (HT.out wr x HEX.out).mono ?_
        rw [hp]
        rintro e w2 ⟨rfl, hex2⟩
        have HE2 : Hid (Ex w.heap.size none w w2) := Lib.hid (HEX.out.trans hex2 hsz0 (by simp))
        have HP := Lib.hid hp
        clear hex2 hp hld
        go_wp2
        go_roundw
        case rel => exact ⟨k + 1, by omega, by go_num, Lib.hid (fun s hs => by
          rw [HTK.out] at hs
          rcases List.mem_append.1 hs with h | h
          · exact HG.out s h
          · rw [List.mem_singleton.1 h]; exact HP.out), HE2.out⟩
        case measure => simp [intOf] <;> omega
      | true =>
        go_wp2_with fail
        refine (HT.out wr x HEX.out).mono ?_
        rw [hp]
        rintro e w2 ⟨rfl, hex2⟩
        have HE2 : Hid (Ex w.heap.size none w w2) := Lib.hid (HEX.out.trans hex2 hsz0 (by simp))
        have HP := Lib.hid hp
        clear hex2 hp hld
        go_wp2
        go_ret
        exact ⟨(k : Int), rfl, by
          rw [decide_eq_true (by omega)]
          exact (List.any_eq_true.2 ⟨x.1, List.mem_of_getElem? HXs.out, HP.out⟩).symm, HE2.out⟩
    · obtain rfl : k = l.length := by omega
      go_wp2
      go_ret
      have HNO : Hid (decide ((0 : Int) ≤ -1) = l.any p) := Lib.hid (by
        rw [decide_eq_false (by omega)]
        refine (Bool.eq_false_iff.2 fun h => ?_).symm
        obtain ⟨s, hs, hp⟩ := List.any_eq_true.1 h
        have := HG.out s (by rw [List.take_of_length_le (Nat.le_refl _)]; exact hs)
        rw [this] at hp; cases hp)
      exact ⟨-1, rfl, HNO.out, HEX.out⟩
set_option maxHeartbeats 2000000 in
set_option maxRecDepth 100000 in
theorem containsSt_any {P : Nat → Prop} (v : Value) (l : List St) (f : Nat) (cb : Array Value) (p : St → Bool) (w : World) (hv : Sl stRep P w v l) (hm : l.length ≤ 100000)
    (ef : ∀ args w, (callFunc f args).run Tryz.prog w = .ok (.enter f args) w) (ht : TestV f cb w p) :
    Calls Tryz.prog 117 #[v, .func (.func f) #[] cb] w fun e w' => e = .returned (.bool (l.any p)) ∧ Ex w.heap.size none w w' := by
  have HV := Lib.hid hv
  have HT := Lib.hid ht
  clear hv ht
  go_enter Tryz.func117, Tryz.ntmps117
  go_wp2_with (first
    | (go_at_call 169
       refine (indexSt_any v l f cb p w HV.out hm ef HT.out).mono ?_
       rintro e w1 ⟨i, rfl, hi, hex⟩
       have HI := Lib.hid hi
       have HE1 := Lib.hid hex
       clear hi hex)
    | fail)
  go_ret
  exact ⟨by rw [← HI.out]; rfl, HE1.out⟩

set_option maxHeartbeats 2000000 in
set_option maxRecDepth 100000 in
theorem pinsAuthor_any (g : Nat) (a : Int) (w0 : World) (hg : w0.heap[g]? = some (.cells #[.int .i64 a] 3 (0, 0))) : TestV 118 #[.pointer (some ⟨g, 0, none⟩)] w0 (fun s => s.author == a) := by
  intro w x hex
  have hgl : g < w0.heap.size := (Array.getElem?_eq_some_iff.1 hg).1
  have hz := hex.size
  have hnew := stV_new w #[.int .i64 0, .int .i64 0, .string ⟨#[]⟩, .int .i64 0, .int .i64 0, .int .i64 0, .int .i64 0, .int .i64 0, .slice none 0 0, .slice none 0 0, .string ⟨#[]⟩, .int .i64 0, .string ⟨#[]⟩] x rfl
  have HX := Lib.hid hex
  have HG := Lib.hid hg
  clear hex hg
  go_enter Tryz.func118, Tryz.ntmps118
  go_upto_region 1 with (fail)
  refine wp_world (fun W => W = w.alloc (.cells (stV x).cells 28)) rfl (fun w1 hw1 => ?_)
  have HE1 : Hid (Ex w.heap.size none w w1) := Lib.hid (by rw [hw1]; exact Ex.new w _)
  have c0 : w1.cell? ⟨w.heap.size, 0, none⟩ = some (.int .i64 x.1.author) := by rw [hw1, cell_of_row _ _ _ _ _ _ (heap_alloc_new w _)]; rfl
  have hc : w1.cell? ⟨g, 0, none⟩ = some (.int .i64 a) := box_cell ((HE1.out.block g (by omega) (by simp)).trans ((HX.out.block g hgl (by simp)).trans HG.out))
  clear hw1 hnew
  go_wp2
  go_ret
  exact ⟨rfl, HE1.out⟩
set_option maxHeartbeats 2000000 in
set_option maxRecDepth 100000 in
theorem pinsTest_any {P : Nat → Prop} (ao : Option Addr) (cap n0 : Nat) (l : List St) (g : Nat) (w0 : World) (hn : l.length = n0) (hg : w0.heap[g]? = some (.cells #[.slice ao n0 cap] 31 (0, 0))) (hv : SlAt stRep P w0 ao l) (hm : l.length ≤ 100000) :
    TestI 116 #[.pointer (some ⟨g, 0, none⟩)] w0 64 (fun i => l.any fun s => s.author == (i : Int)) := by
  intro w k hex hk
  have hgl : g < w0.heap.size := (Array.getElem?_eq_some_iff.1 hg).1
  have hz := hex.size
  obtain ⟨w1, hw1⟩ : ∃ w1 : World, w1 = w.alloc (.cells #[.int .i64 (k : Int)] 3) := ⟨_, rfl⟩
  have hz1 : w1.heap.size = w.heap.size + 1 := by rw [hw1]; simp
  have HE1 : Hid (Ex w.heap.size none w w1) := Lib.hid (by rw [hw1]; exact Ex.new w _)
  have HB1 : Hid (w1.heap[w.heap.size]? = some (.cells #[.int .i64 (k : Int)] 3 (0, 0))) := Lib.hid (by rw [hw1]; exact heap_alloc_new w _)
  have HV : Hid (Sl stRep P w1 (.slice ao n0 cap) l) := Lib.hid ⟨ao, cap, by rw [hn], hv.keep (by decide) fun b _ hb => (HE1.out.block b (by omega) (by simp)).trans (hex.block b hb (by simp))⟩
  have hc : w1.cell? ⟨g, 0, none⟩ = some (.slice ao n0 cap) := box_cell ((HE1.out.block g (by omega) (by simp)).trans ((hex.block g hgl (by simp)).trans hg))
  have hmf : ∀ (fn : Fn) (first cap : Array Value) (w : World), (Instr.makeFunc fn first cap).run Tryz.prog w = .ok (.func fn first cap) w := fun _ _ _ _ => rfl
  clear hex hg hv
  go_enter Tryz.func116, Tryz.ntmps116
  go_upto_region 1 with (fail)
  rw [← hw1]
  clear hw1
  go_wp2_with (first
    | (go_at_call 117
       refine (containsSt_any _ l 118 #[.pointer (some ⟨w.heap.size, 0, none⟩)] (fun s => s.author == (k : Int)) w1 HV.out hm (enters_of Tryz.func118 (by kernel_rfl) rfl) (pinsAuthor_any _ _ w1 HB1.out)).mono ?_
       rintro e w2 ⟨rfl, hex⟩
       have HE2 : Hid (Ex w.heap.size none w w2) := Lib.hid (HE1.out.trans hex (by omega) (by simp))
       clear hex)
    | fail)
  go_ret
  exact ⟨rfl, HE2.out⟩
/-- The statement that holds nothing but pins. -/
def pinS (l : List PinD) : St := ⟨0, 0, ⟨#[]⟩, 0, 10, 0, 0, 0, [], l, ⟨#[]⟩, 0, ⟨#[]⟩⟩
set_option maxHeartbeats 2000000 in
set_option maxRecDepth 100000 in
theorem pinnedS_any {P : Nat → Prop} (po : Option Addr) (pc n0 : Nat) (l : List PinD) (w : World) (hn : l.length = n0) (hv : SlAt pinRep P w po l) (hm : n0 ≤ 9223372036854775807) :
    Calls Tryz.prog 121 #[.slice po n0 pc] w fun e w' => e = .returned (.bool (checkI (pinS l) == 0)) ∧ Ex w.heap.size none w w' := by
  have HV := Lib.hid hv
  have HN := Lib.hid hn
  clear hv hn
  go_enter Tryz.func121, Tryz.ntmps121
  go_wp2_with (first
    | (go_at_call 47
       refine (checkP_any (P := P) (pinS l) none po 0 0 n0 pc w ⟨⟨none, 0, rfl, SlAt.nil _ _ _⟩, ⟨po, pc, by simp only [Sv.v]; rw [← HN.out]; rfl, HV.out⟩⟩ ⟨by decide, hm⟩).mono ?_
       rintro e w1 ⟨rfl, hex⟩
       have HE1 := Lib.hid hex
       clear hex)
    | fail)
  go_ret
  exact ⟨rfl, HE1.out⟩
end Go.Proofs.YtdifcnhhcinonaaGreat

namespace Go.Proofs.YtdifcnhhcinonaaGreat
open Go.RowKit Go.Sort
attribute [local go_sem ↓] rowLoad_stv rowStore_stv rowBuild_stv

/-- The pin of a row that counts. -/
def pinOf (i : Int) (ls : List St) : Option PinD := ((ls.take (countN ls)).getLast?).map fun x => (i, (countN ls : Int), sha (stB x))
/-- What store.Pins may answer for a row of keys. -/
def PinsR (l : List St) (ks : List Int) (ps : List PinD) : Prop := ∃ lss : List (List St), lss.length = ks.length ∧ (∀ (j : Nat) (i : Int) (ls : List St), ks[j]? = some i → lss[j]? = some ls → LinksR i (l.filter fun s => s.author == i) ls) ∧ ps = ((ks.zip lss).map fun q => pinOf q.1 q.2).filterMap id
theorem PinsR.nil (l : List St) : PinsR l [] [] := ⟨[], rfl, fun j i ls h => by simp at h, rfl⟩
theorem PinsR.snoc {l : List St} {ks : List Int} {ps : List PinD} {i : Int} {ls : List St} (h : PinsR l ks ps) (hl : LinksR i (l.filter fun s => s.author == i) ls) : PinsR l (ks ++ [i]) (ps ++ (pinOf i ls).toList) := by
  obtain ⟨lss, h1, h2, rfl⟩ := h
  refine ⟨lss ++ [ls], by simp [h1], fun j i' ls' e1 e2 => ?_, ?_⟩
  · by_cases hj : j < ks.length
    · rw [List.getElem?_append_left hj] at e1
      rw [List.getElem?_append_left (by omega)] at e2
      exact h2 j i' ls' e1 e2
    · rw [List.getElem?_append_right (by omega)] at e1
      rw [List.getElem?_append_right (by omega)] at e2
      rw [h1] at e2
      cases hq : j - ks.length with
      | zero =>
        rw [hq] at e1 e2
        simp only [List.getElem?_cons_zero, Option.some.injEq] at e1 e2
        rw [← e1, ← e2]; exact hl
      | succ q => rw [hq] at e1; simp at e1
  · rw [List.zip_append h1.symm, List.map_append, List.filterMap_append]
    congr 1
theorem countN_le (ls : List St) : countN ls ≤ ls.length := by
  unfold countN
  refine Nat.le_trans (List.takeWhile_sublist _).length_le ?_
  simp
theorem LinksR.len' {a : Int} {l ls : List St} (h : LinksR a l ls) : ls.length ≤ l.length := by
  obtain ⟨d, hp, _, rfl⟩ := h
  refine Nat.le_trans (cpt_le _ _ _) ?_
  rw [hp.length_eq]
  exact List.length_filter_le _ _
theorem OwnS.atW {w : World} {base : Nat} {ao : Option Addr} {cap : Nat} {l : List St} (h : OwnS w base ao cap l) : SlAt stRep (fun b => base ≤ b) w ao l := by
  obtain ⟨ao', cap', e, h'⟩ := h.sl
  cases e
  exact h'
theorem digestV {P : Nat → Prop} (x : St × Sv × Sv) (w : World) (hs : Lies P w x) (ht : Tame x.1) : Calls Tryz.prog 88 #[stV x] w fun e w' => e = .returned (.string (sha (stB x.1))) ∧ Ex w.heap.size none w w' := by
  obtain ⟨s, ⟨lo, ln, lc⟩, ⟨po, pn, pc⟩⟩ := x
  exact digestP_any s lo po ln lc pn pc w hs ht
theorem OwnE.slW {α : Type} [Inhabited α] {enc : α → List Value} {k : Nat} {hk : ∀ x, (enc x).length = k} {h1 : ∀ x, ∀ v ∈ enc x, v.oneCell' = true} {e : TypeId} {w : World} {base : Nat} {ao : Option Addr} {cap : Nat} {xs : List α} (h : OwnE enc k e w base ao cap xs) : SlAt (valRep enc k hk h1) (fun b => base ≤ b) w ao xs := by
  rcases h.cases with ⟨_, _, e⟩ | ⟨g, e, hg, _, _⟩
  · rw [e]; exact SlAt.nil _ _ _
  · subst e; exact val_sl hg (h.holds hk)
theorem Tryz.infoPinP : (Tryz.prog.info? 125).map (fun i => (i.zero, i.size, i.bytes)) = some (some (.agg #[.int .i64 0, .int .i64 0, .string ⟨#[]⟩]), 3, 32) := by kernel_rfl
/-- The keys that store.Pins walks over. -/
def keysL (l : List St) : List Int := ((List.range 64).filter fun i : Nat => l.any fun s => s.author == (i : Int)).map (fun i : Nat => (i : Int))
theorem keysL_len (l : List St) : (keysL l).length ≤ 64 := by
  unfold keysL
  rw [List.length_map]
  refine Nat.le_trans (List.length_filter_le _ _) ?_
  simp

set_option maxHeartbeats 8000000 in
set_option maxRecDepth 100000 in
theorem pinsP_any {P : Nat → Prop} (ao : Option Addr) (cap n0 : Nat) (l : List St) (w : World) (hn : l.length = n0) (hv : SlAt stRep P w ao l) (hm : l.length ≤ 100000) (hL : LightL 9223372036854775807 l) :
    Calls Tryz.prog 56 #[.agg #[.slice ao n0 cap]] w fun e w' => ∃ ro rc n ps, e = .returned (.slice ro n rc) ∧ n = ps.length ∧ PinsR l (keysL l) ps ∧ SlAt pinRep (fun b => w.heap.size ≤ b) w' ro ps ∧ Ex w.heap.size none w w' := by
  have HN := Lib.hid hn
  have HLL := Lib.hid hL
  have HV : Hid (∀ w', Ex w.heap.size none w w' → SlAt stRep P w' ao l) := Lib.hid (fun w' h => hv.keep (by decide) fun b _ hb => h.block b hb (by simp))
  clear hn hL hv
  have hmf : ∀ (fn : Fn) (first cap : Array Value) (w : World), (Instr.makeFunc fn first cap).run Tryz.prog w = .ok (.func fn first cap) w := fun _ _ _ _ => rfl
  obtain ⟨w0, hw0⟩ : ∃ w0 : World, w0 = w.alloc (.cells #[.slice ao n0 cap] 31) := ⟨_, rfl⟩
  have hz0 : w0.heap.size = w.heap.size + 1 := by rw [hw0]; simp
  have HE0 : Hid (Ex w.heap.size none w w0) := Lib.hid (by rw [hw0]; exact Ex.new w _)
  have HB0 : Hid (w0.heap[w.heap.size]? = some (.cells #[.slice ao n0 cap] 31 (0, 0))) := Lib.hid (by rw [hw0]; exact heap_alloc_new w _)
  go_enter Tryz.func56, Tryz.ntmps56
  go_upto_region 1 with (fail)
  rw [← hw0]
  clear hw0
  go_wp2_with (first
    | (go_at_call 115
       refine (where_any 64 116 #[.pointer (some ⟨w.heap.size, 0, none⟩)] _ w0 (by decide) (enters_of Tryz.func116 (by kernel_rfl) rfl) (pinsTest_any ao cap n0 l _ w0 HN.out HB0.out (HV.out w0 HE0.out) hm)).mono ?_
       rintro e w1 ⟨xo, xc, xs, rfl, hxs, hown, hex⟩
       obtain ⟨m, hm0⟩ : ∃ m, m = xs.length := ⟨_, rfl⟩
       rw [← hm0]
       have HM := Lib.hid hm0.symm
       have HXS : Hid (xs = keysL l) := Lib.hid hxs
       have hm64 : m ≤ 64 := by have := keysL_len l; rw [← HXS.out] at this; omega
       have HOX := Lib.hid hown
       have HE1 := Lib.hid hex
       have hz1 : w0.heap.size ≤ w1.heap.size := hex.size
       clear hxs hown hex hm0 hmf)
    | fail)
  go_loopw [3, 10] (fun v i wr => ∃ (k n : Nat) (ro : Option Addr) (rc : Nat) (ps : List PinD), k ≤ m ∧ n ≤ k ∧ i = .int .i64 k ∧ v = .slice ro n rc ∧ Hid (ps.length = n ∧ PinsR l (xs.take k) ps) ∧ Hid (OwnE pinE 3 125 wr w1.heap.size ro rc ps) ∧ Ex w1.heap.size none w1 wr) (fun _ i _ => m - (intOf i).toNat)
  case atStart => exact ⟨0, 0, none, 0, [], by omega, by omega, rfl, rfl, Lib.hid ⟨rfl, by rw [List.take_zero]; exact PinsR.nil l⟩, Lib.hid (OwnE.nil _ _ _ _ _), Ex.refl _ _ _⟩
  case round =>
    obtain ⟨k, n, ro, rc, ps, hk, hnk, rfl, rfl, HPS, HO, hex0⟩ := hrel
    have hsz0 := hex0.size
    have HER := Lib.hid hex0
    have HEW : Hid (Ex w.heap.size none w wr) := Lib.hid ((HE0.out.trans HE1.out (by omega) (by simp)).trans hex0 (by omega) (by simp))
    clear hex0
    by_cases hlt : k < m
    · have hltI : (k : Int) < (m : Int) := by omega
      obtain ⟨b, off, hxo, hcells⟩ := (HOX.out.keep HER.out (Nat.le_refl _) (by simp)).ints k (by rw [HM.out]; exact hlt)
      subst hxo
      obtain ⟨a, ha⟩ : ∃ a, a = xs.getD k 0 := ⟨_, rfl⟩
      have hck := hcells k (by rw [HM.out]; exact hlt)
      rw [← ha] at hck
      have HA : Hid (xs[k]? = some a) := Lib.hid (by rw [ha, List.getElem?_eq_getElem (by rw [HM.out]; exact hlt), List.getD_eq_getElem?_getD, List.getElem?_eq_getElem (by rw [HM.out]; exact hlt)]; rfl)
      have hc0 : wr.cell? ⟨w.heap.size, 0, none⟩ = some (.slice ao n0 cap) := box_cell ((HER.out.block _ (by omega) (by simp)).trans ((HE1.out.block _ (by omega) (by simp)).trans HB0.out))
      have HTK : Hid (xs.take (k + 1) = xs.take k ++ [a]) := Lib.hid (by rw [List.take_add_one, HA.out]; rfl)
      clear hcells ha
      go_upto_region 6 with (first
        | (go_at_call 120
           refine (partN_any ao cap n0 l a wr HN.out (HV.out wr HEW.out) hm).mono ?_
           rintro e w4 ⟨u, rfl, hu, hex⟩
           have HU := Lib.hid hu
           have HE4 := Lib.hid hex
           have hz4 : wr.heap.size ≤ w4.heap.size := hex.size
           clear hu hex hc0 hck)
        | (go_at_call 119
           refine (countedP_any a u _ w4 HU.out (Nat.le_trans (List.length_filter_le _ _) hm) (HLL.out.filterS _)).mono ?_
           rintro e w5 ⟨ls, co, cn, cc, hls, rfl, hcn, hown, hex⟩
           have HLS := Lib.hid hls
           have HCN := Lib.hid hcn
           have HOC := Lib.hid hown
           have HE5 : Hid (Ex wr.heap.size none wr w5) := Lib.hid (HE4.out.trans hex hz4 (by simp))
           have hz5 : wr.heap.size ≤ w5.heap.size := HE5.out.size
           have HE5b : Hid (w4.heap.size ≤ w5.heap.size) := Lib.hid hex.size
           clear hls hcn hown hex)
        | fail)
      have HLSB : Hid (∀ x ∈ ls, okB a x = true) := Lib.hid (LinksR.ok HLS.out)
      by_cases hpos : 0 < cn
      · have hposI : (0 : Int) < (cn : Int) := by omega
        have hcl : (ls.take (countN ls)).length = cn := by rw [List.length_take, HCN.out]; exact Nat.min_eq_left (countN_le ls)
        obtain ⟨i, hi⟩ : ∃ i, i = cn - 1 := ⟨_, rfl⟩
        have hcn1 : cn = i + 1 := by omega
        have hcb : cn ≤ 100000 := by
          have h1 := countN_le ls
          have h2 := Nat.le_trans HLS.out.len' (List.length_filter_le _ _)
          rw [← HCN.out] at h1
          omega
        have hw1 : IntKind.i64.wrap ((cn : Int) - 1) = i := by rw [show (cn : Int) - 1 = i by omega]; exact IntWalk.i64_in _ (by omega)
        have hik : (i : Int) < (cn : Int) := by omega
        obtain ⟨b9, off9, y, hco, _, hb9, HYs, hly, HLD⟩ := stv_get HOC.out.atW i (by rw [hcl]; omega)
        subst hco
        have hld := HLD.out w5 rfl
        have HYM : Hid (y.1 ∈ ls ∧ (ls.take (countN ls)).getLast? = some y.1) := Lib.hid ⟨List.mem_of_mem_take (List.mem_of_getElem? HYs.out), by rw [List.getLast?_eq_getElem?, hcl, ← hi]; exact HYs.out⟩
        have HTY := Lib.hid (checkI_tame (okB_iff.1 (HLSB.out y.1 HYM.out.1)).2.1)
        have HLY := Lib.hid hly
        clear hly hi hcn1
        have HPN : Hid (pinOf a ls = some (a, (cn : Int), sha (stB y.1))) := Lib.hid (by unfold pinOf; rw [HYM.out.2, ← HCN.out]; rfl)
        go_wp2_with (first
          | (go_at_call 88
             refine (digestV y w5 HLY.out HTY.out).mono ?_
             rintro e w6 ⟨rfl, hex⟩
             have HE6 : Hid (Ex wr.heap.size none wr w6) := Lib.hid (HE5.out.trans hex hz5 (by simp))
             have hz6 : wr.heap.size ≤ w6.heap.size := HE6.out.size
             clear hex hld)
          | (at_builtin; refine wpList_appE2 rfl (.tmp 22) (.tmp 34) _ 125 (by rfl) Tryz.underlying24 (.agg #[.int .i64 0, .int .i64 0, .string ⟨#[]⟩]) 3 32 Tryz.infoPinP rfl (by decide) (by decide) pinE pinE_len one_pinE w1.heap.size ro rc n ps HPS.out.1 (by rfl) (some ⟨w6.heap.size, 0, none⟩) 1 1 (by rfl) [(a, (cn : Int), sha (stB y.1))] rfl ((HO.out.keep HE6.out (Nat.le_refl _) (by simp)).keep (Ex.new w6 _) (Nat.le_refl _) (by simp)) (lit_cells (by rfl)) (by omega) (by simp; omega) (n + 1) rfl ?_; intro ro2 rc2 w8 hown8 hex8 _ _)
          | fail)
        have HO8 := Lib.hid hown8
        have HE8 : Hid (Ex w1.heap.size none w1 w8) := Lib.hid (((HER.out.trans HE6.out hsz0 (by simp)).trans (Ex.new w6 _) (by omega) (by simp)).trans hex8 (Nat.le_refl _) (by simp))
        clear hown8 hex8
        go_roundw
        case rel => exact ⟨k + 1, n + 1, ro2, rc2, ps ++ [(a, (cn : Int), sha (stB y.1))], by omega, by omega, by go_num, rfl, Lib.hid ⟨by rw [List.length_append, HPS.out.1]; rfl, by
          have h := HPS.out.2.snoc HLS.out
          rw [HPN.out] at h
          rw [HTK.out]; exact h⟩, HO8, HE8.out⟩
        case measure => simp [intOf] <;> omega
      · obtain rfl : cn = 0 := by omega
        have HPN : Hid (pinOf a ls = none) := Lib.hid (by unfold pinOf; rw [← HCN.out]; rfl)
        go_wp2
        go_roundw
        case rel => exact ⟨k + 1, n, ro, rc, ps, by omega, by omega, by go_num, rfl, Lib.hid ⟨HPS.out.1, by
          have h := HPS.out.2.snoc HLS.out
          rw [HPN.out, Option.toList_none, List.append_nil] at h
          rw [HTK.out]; exact h⟩, Lib.hid (HO.out.keep HE5.out (Nat.le_refl _) (by simp)), HER.out.trans HE5.out hsz0 (by simp)⟩
        case measure => simp [intOf] <;> omega
    · obtain rfl : k = m := by omega
      go_wp2
      go_ret
      exact ⟨ro, rc, n, ps, rfl, HPS.out.1.symm, by
        have h := HPS.out.2
        rw [List.take_of_length_le (by rw [HM.out]; exact Nat.le_refl _), HXS.out] at h
        exact h, HO.out.slW.mono (by decide) (fun b hb _ => by omega), HEW.out⟩
end Go.Proofs.YtdifcnhhcinonaaGreat

namespace Go.Proofs.YtdifcnhhcinonaaGreat
open Go.RowKit Go.Sort Go.Maps
attribute [local go_sem] Oper.semAt_some
attribute [local go_sem ↓] rowLoad_stv rowStore_stv rowLoad_lkv rowStore_lkv

/-- A key of the map of links. -/
def keyS (s : ByteArray) : Lit := .string s.data.toList
theorem keyS_inj {s t : ByteArray} (h : keyS s = keyS t) : s = t := by
  simp only [keyS, Lit.string.injEq] at h
  apply ByteArray.ext
  exact Array.ext' h
/-- What is stored for a link. -/
def storeL (x : St × Sv × Sv) : Lit × Value := (keyS x.1.dig, linkV x)
/-- The last link with a digest. -/
def lookX (X : List (St × Sv × Sv)) (d : ByteArray) : Option (St × Sv × Sv) := X.foldl (fun r x => if x.1.dig = d then some x else r) none
theorem lookX_snoc (X : List (St × Sv × Sv)) (x : St × Sv × Sv) (d : ByteArray) : lookX (X ++ [x]) d = if x.1.dig = d then some x else lookX X d := by
  unfold lookX; rw [List.foldl_append]; rfl
theorem lastV_look (X : List (St × Sv × Sv)) (d : ByteArray) : lastV (X.map storeL) (keyS d) = (lookX X d).map linkV := by
  induction X using snoc_ind with
  | nil => rfl
  | snoc X x ih =>
    rw [List.map_append, List.map_singleton, lastV_snoc, lookX_snoc, ih]
    by_cases h : x.1.dig = d
    · rw [if_pos h, if_pos (by simp [storeL, h])]; rfl
    · rw [if_neg h, if_neg (show ¬ (storeL x).1 = keyS d from fun e => h (keyS_inj e))]
theorem lookX_mem {X : List (St × Sv × Sv)} {d : ByteArray} {x : St × Sv × Sv} (h : lookX X d = some x) : x ∈ X ∧ x.1.dig = d := by
  induction X using snoc_ind with
  | nil => cases h
  | snoc X y ih =>
    rw [lookX_snoc] at h
    split at h
    · next e => cases h; exact ⟨by simp, e⟩
    · have := ih h; exact ⟨List.mem_append_left _ this.1, this.2⟩
/-- The link behind which another stands. -/
def beforeX (X : List (St × Sv × Sv)) (x : St × Sv × Sv) : Option (St × Sv × Sv) := (lookX X x.1.prev).filter fun y => followsL y.1 x.1
/-- From a link back, as far as each follows the one before. -/
def backX (X : List (St × Sv × Sv)) : Nat → St × Sv × Sv → List (St × Sv × Sv)
  | 0, _ => []
  | f + 1, x => x :: (match beforeX X x with
    | none => []
    | some y => backX X f y)
theorem backX_none {X : List (St × Sv × Sv)} {x : St × Sv × Sv} {f : Nat} (h : beforeX X x = none) : backX X (f + 1) x = [x] := by simp only [backX, h]
theorem backX_some {X : List (St × Sv × Sv)} {x y : St × Sv × Sv} {f : Nat} (h : beforeX X x = some y) : backX X (f + 1) x = x :: backX X f y := by simp only [backX, h]

theorem backX_len (X : List (St × Sv × Sv)) : ∀ (f : Nat) (x : St × Sv × Sv), (backX X f x).length ≤ f
  | 0, _ => Nat.le_refl _
  | f + 1, x => by
    cases h : beforeX X x with
    | none => rw [backX_none h]; simp
    | some y => rw [backX_some h]; have := backX_len X f y; simp; omega
theorem ownsMap_same {H : Type} {P : Program} {k : TypeId} {R : Value → Option (DataW H × List MemPlace)} {w w' : World} {b n : Nat} {D : DataW H} (h : w.ownsMap P k R b n D) (hb : w'.heap[b]? = w.heap[b]?) : w'.ownsMap P k R b n D := by
  obtain ⟨es, clock, h1, h2⟩ := h
  exact ⟨es, clock, hb.trans h1, h2⟩
/-- 'v, ok := m[k]' in a fence. -/
theorem wpListIn_lookV {F : Fence} {nF : Nat} {P : Program} (w : World) {ops : Array Oper} {rest : List Oper} {o : Oper} {a : Act} {Q : Exit → Act → World → Prop}
    (hg : o.guard = none) (m x : Operand) (t : TypeId) (hop : o.op = Op.lookup t m x true)
    (k e : TypeId) (K : Keyed P k) (ht : P.underlying t = some (.map k e)) (z : Value) (hz : (zeroValue e).run P w = .ok z w) (b n : Nat) (l : List (Lit × Value))
    (hm : a.eval m = .map (some b)) (hown : w.ownsMap P k valElem b n (mapV l)) (key : Value) (kl : Lit) (hx : a.eval x = key) (hkey : keyOf P k key = some kl) (hkl : WideAt.IsKeyLit kl)
    (v : Value) (ok : Bool) (hv : (lastV l kl).getD z = v) (hok : (lastV l kl).isSome = ok)
    (hK : wpListIn F nF P ops Q rest (a.put o.dst (.tuple #[v, .bool ok])) w) :
    wpListIn F nF P ops Q (o :: rest) a w := by
  refine wpListIn_plain hg fun K' hK' => ?_
  obtain ⟨u, ps, hrun, hr⟩ := hown.look_ok K ht hz (zd := .held z) (zp := []) rfl hkey
  have h1 := valElem_inv hr
  rw [mapV_at z hkl, hv] at h1
  cases h1
  rw [mapV_has hkl, hok] at hrun
  unfold Oper.wpIn
  refine ⟨by simp [Oper.about, hop], ?_⟩
  rw [Oper.semAt_plain F _ _ (by rw [hop]; intro c hc'; cases hc')]
  simp [execOp, hop, hm, hx, hrun, Result.andThen]
  exact hK' _ _ hK

/-- The cells of no link. -/
def zeroLk : St × Sv × Sv := (⟨0, 0, ⟨#[]⟩, 0, 0, 0, 0, 0, [], [], ⟨#[]⟩, 0, ⟨#[]⟩⟩, ⟨none, 0, 0⟩, ⟨none, 0, 0⟩)
theorem zeroLk_val (w : World) : (zeroValue 192).run Tryz.prog w = .ok (linkV zeroLk) w := Tryz.zeroValue192 w
/-- What a link's number says, read off a box. -/
def numAt (w : World) (g : Nat) : Nat := match w.cell? ⟨g, 1, none⟩ with
  | some (.int _ n) => n.toNat
  | _ => 0
theorem numAt_eq {w : World} {g : Nat} {x : St × Sv × Sv} {t : TypeId} {fr : Nat × Nat} (h : w.heap[g]? = some (.cells (linkV x).cells t fr)) : numAt w g = x.1.number.toNat := by
  unfold numAt
  rw [(linkV_cells5 h).2.1]

set_option maxHeartbeats 8000000 in
set_option maxRecDepth 100000 in
/-- The iterator, whatever the rounds do that keep what lies below N but block go. -/
theorem back1_in (l gx gm mb cnt N go : Nat) (X : List (St × Sv × Sv)) (x0 : St × Sv × Sv) (J Jx : List (St × Sv × Sv) → World → Prop) (W : World)
    (hX : ∀ x ∈ X, (0 ≤ x.1.number ∧ x.1.number ≤ 200) ∧ x.1.prev.size ≤ maxLen) (hx0 : x0 ∈ X) (hgx : gx < N ∧ gx ≠ go) (hgm : gm < N ∧ gm ≠ go ∧ gm ≠ gx) (hmb : mb < N ∧ mb ≠ go ∧ mb ≠ gx) (hN : N ≤ W.heap.size)
    (hJ : ∀ pre A B, J pre A → Ex A.heap.size (some gx) A B → J pre B)
    (hY : ∀ pre x W1, J pre W1 → x ∈ X → pre.length ≤ 200 → YieldAt Fence.wide 0 Tryz.prog l #[linkV x] W1 fun e W' => (e = .returned (.bool true) ∧ J (pre ++ [x]) W' ∧ Ex N (some go) W1 W') ∨ (e = .returned (.bool false) ∧ Jx (pre ++ [x]) W'))
    (hW1 : W.heap[gx]? = some (.cells (linkV x0).cells 192 (0, 0))) (hW2 : W.cell? ⟨gm, 0, none⟩ = some (.map (some mb))) (hW3 : W.ownsMap Tryz.prog 9 valElem mb cnt (mapV (X.map storeL))) (h0 : J [] W) :
    CallsIn Fence.wide 1 Tryz.prog 220 #[.func (.yield l) #[] #[], .pointer (some ⟨gx, 0, none⟩), .pointer (some ⟨gm, 0, none⟩)] W fun e W' => (∃ v, e = .returned v) ∧ (J (backX X 201 x0) W' ∨ ∃ pre rest, pre ++ rest = backX X 201 x0 ∧ Jx pre W') := by
  have HX := Lib.hid hX
  have HJ := Lib.hid hJ
  have HY := Lib.hid hY
  clear hX hJ hY
  refine callsIn_of_wp Tryz.func220 rfl trivial ?_ rfl
  simp only [Tryz.ntmps220, List.size_toArray, List.length_cons, List.length_nil, Nat.reduceAdd, Nat.reduceSub, Array.replicate_succ, Array.replicate_zero, List.push_toArray, List.append_toArray, List.nil_append, List.cons_append]
  gi_wp2
  gi_loopw [] (fun wr => ∃ (pre : List (St × Sv × Sv)) (x : St × Sv × Sv) (f : Nat), Hid (pre ++ backX X (f + 1) x = backX X 201 x0) ∧ x ∈ X ∧ x.1.number.toNat ≤ f ∧ Hid (wr.heap[gx]? = some (.cells (linkV x).cells 192 (0, 0))) ∧ wr.cell? ⟨gm, 0, none⟩ = some (.map (some mb)) ∧ Hid (wr.ownsMap Tryz.prog 9 valElem mb cnt (mapV (X.map storeL))) ∧ Hid (J pre wr) ∧ N ≤ wr.heap.size)
    (fun wr => numAt wr gx)
  case atStart => exact ⟨[], x0, 200, Lib.hid rfl, hx0, by have := (HX.out x0 hx0).1; omega, Lib.hid hW1, hW2, Lib.hid hW3, Lib.hid h0, hN⟩
  case round =>
    obtain ⟨pre, x, f, HP, hxm, hxf, HB, hcm, HM, HJp, hNr⟩ := hrel
    have hpl : pre.length ≤ 200 := by
      have h1 := congrArg List.length HP.out
      have h2 := backX_len X 201 x0
      have h3 : 1 ≤ (backX X (f + 1) x).length := by simp [backX]
      rw [List.length_append] at h1
      omega
    obtain ⟨fn, tmps, assign, body, hy, hR⟩ := HY.out pre x wr HJp.out hxm hpl
    have hl1 := linkV_box HB.out
    have HFL : Hid ((0 ≤ x.1.number ∧ x.1.number ≤ 200) ∧ x.1.prev.size ≤ maxLen) := Lib.hid (HX.out x hxm)
    gi_wp2
    refine hR.mono ?_
    rintro e W3 (⟨rfl, hJ3, hk3⟩ | ⟨rfl, hJx3⟩)
    · have HJ3 := Lib.hid hJ3
      have HK3 := Lib.hid hk3
      have hN3 : N ≤ W3.heap.size := Nat.le_trans hNr hk3.size
      have HB3 : Hid (W3.heap[gx]? = some (.cells (linkV x).cells 192 (0, 0))) := Lib.hid ((hk3.block gx hgx.1 (fun e => hgx.2 (Option.some.inj e))).trans HB.out)
      have hcm3 : W3.cell? ⟨gm, 0, none⟩ = some (.map (some mb)) := (World.cell?_of_block (w := wr) (a := ⟨gm, 0, none⟩) (hk3.block gm hgm.1 (fun e => hgm.2.1 (Option.some.inj e)))).trans hcm
      have HM3 : Hid (W3.ownsMap Tryz.prog 9 valElem mb cnt (mapV (X.map storeL))) := Lib.hid (ownsMap_same HM.out (hk3.block mb hmb.1 (fun e => hmb.2.1 (Option.some.inj e))))
      have hcp : W3.cell? ⟨gx, 2, none⟩ = some (.string x.1.prev) := (linkV_cells5 HB3.out).2.2.1
      clear hJ3 hk3 hl1 hcm hy hR
      cases hlk : lookX X x.1.prev with
      | none =>
        have HLK : Hid (lastV (X.map storeL) (keyS x.1.prev) = none) := Lib.hid (by rw [lastV_look, hlk]; rfl)
        have HBE : Hid (pre ++ [x] = backX X 201 x0) := Lib.hid (by rw [← HP.out, backX_none (show beforeX X x = none by unfold beforeX; rw [hlk]; rfl)])
        have hnew := linkV_new W3 #[.int .i64 0, .int .i64 0, .string ⟨#[]⟩, .int .i64 0, .int .i64 0, .int .i64 0, .int .i64 0, .int .i64 0, .slice none 0 0, .slice none 0 0, .string ⟨#[]⟩, .int .i64 0, .string ⟨#[]⟩, .string ⟨#[]⟩] zeroLk rfl
        clear hlk
        gi_wp2_with (gi_at_lookup; go_loud (refine wpListIn_lookV _ rfl _ _ _ (by rfl) 9 192 (string_keyed Tryz.underlying9) Tryz.underlying195 (linkV zeroLk) (zeroLk_val _) mb cnt (X.map storeL) (by rfl) HM3.out _ (keyS x.1.prev) (by rfl) (WideMaps.keyOf_string_mk Tryz.underlying9 HFL.out.2) trivial (linkV zeroLk) false (by rw [HLK.out]; rfl) (by rw [HLK.out]; rfl) ?_))
        refine ⟨trivial, ?_⟩
        gi_wp2
        refine bodyPost_ret (results_none rfl _ _ _) rfl ?_
        exact ⟨⟨_, rfl⟩, .inl (by rw [← HBE.out]; exact HJ.out _ _ _ HJ3.out ((Ex.refl _ _ W3).alloc (Nat.le_refl _) _))⟩
      | some y =>
        have HLK : Hid (lastV (X.map storeL) (keyS x.1.prev) = some (linkV y)) := Lib.hid (by rw [lastV_look, hlk]; rfl)
        have hym := (lookX_mem hlk).1
        have HFY := Lib.hid (HX.out y hym)
        have hnew := linkV_new W3 #[.int .i64 0, .int .i64 0, .string ⟨#[]⟩, .int .i64 0, .int .i64 0, .int .i64 0, .int .i64 0, .int .i64 0, .slice none 0 0, .slice none 0 0, .string ⟨#[]⟩, .int .i64 0, .string ⟨#[]⟩, .string ⟨#[]⟩] y rfl
        obtain ⟨fw, hfw⟩ : ∃ fw, fw = followsL y.1 x.1 := ⟨_, rfl⟩
        have HBF : Hid (beforeX X x = if fw then some y else none) := Lib.hid (by
          unfold beforeX; rw [hlk, hfw]
          cases h : followsL y.1 x.1 <;> simp [Option.filter, h])
        have HFW := Lib.hid hfw
        have HCF : Hid (∀ w', Calls Tryz.prog 171 #[linkV y, linkV x] w' fun e w'' => e = .returned (.bool fw) ∧ Ex w'.heap.size none w' w'') := Lib.hid (fun w' => by rw [hfw]; exact follows_v y x w' (by have := HFY.out.1; omega) (by have := HFL.out.1; omega))
        clear hlk hfw
        obtain ⟨W4, hW4⟩ : ∃ W4, W4 = W3.alloc (.cells (linkV y).cells 192) := ⟨_, rfl⟩
        have HE4 : Hid (Ex W3.heap.size none W3 W4) := Lib.hid (by rw [hW4]; exact Ex.new W3 _)
        have hz4 : W4.heap.size = W3.heap.size + 1 := by rw [hW4]; simp
        have HQ4 : Hid (∀ w', Ex W4.heap.size none W4 w' → w'.heap[W3.heap.size]? = some (.cells (linkV y).cells 192 (0, 0)) ∧ w'.heap[gx]? = some (.cells (linkV x).cells 192 (0, 0))) := Lib.hid (fun w' h => ⟨(h.block _ (by omega) (by simp)).trans (by rw [hW4]; exact heap_alloc_new W3 _), (h.block gx (by omega) (by simp)).trans ((HE4.out.block gx (by omega) (by simp)).trans HB3.out)⟩)
        have r1 := linkV_box (HQ4.out _ (Ex.refl _ _ W4)).1
        have r2 := linkV_box (HQ4.out _ (Ex.refl _ _ W4)).2
        rw [← hW4] at hnew
        clear hW4
        cases fw with
        | false =>
          gi_wp2_with (first
            | (gi_at_lookup; refine wpListIn_lookV _ rfl _ _ _ (by rfl) 9 192 (string_keyed Tryz.underlying9) Tryz.underlying195 (linkV zeroLk) (zeroLk_val _) mb cnt (X.map storeL) (by rfl) HM3.out _ (keyS x.1.prev) (by rfl) (WideMaps.keyOf_string_mk Tryz.underlying9 HFL.out.2) trivial (linkV y) true (by rw [HLK.out]; rfl) (by rw [HLK.out]; rfl) ?_)
            | (refine ⟨trivial, ?_⟩; gi_at_call 171; refine (callsIn_wide.2 (HCF.out _)).mono ?_; rintro e W5 ⟨rfl, hex⟩; have HE5 := Lib.hid hex; clear hex)
            | fail)
          refine bodyPost_ret (results_none rfl _ _ _) rfl ?_
          exact ⟨⟨_, rfl⟩, .inl (by rw [← HP.out, backX_none (show beforeX X x = none by rw [HBF.out]; rfl)]; exact HJ.out _ _ _ HJ3.out ⟨(HE4.out.trans HE5.out (by omega) (by simp)).os, (HE4.out.trans HE5.out (by omega) (by simp)).tape, (HE4.out.trans HE5.out (by omega) (by simp)).output, (HE4.out.trans HE5.out (by omega) (by simp)).size, fun b hb _ => (HE4.out.trans HE5.out (by omega) (by simp)).block b hb (by simp)⟩)⟩
        | true =>
          gi_wp2_with (first
            | (gi_at_lookup; refine wpListIn_lookV _ rfl _ _ _ (by rfl) 9 192 (string_keyed Tryz.underlying9) Tryz.underlying195 (linkV zeroLk) (zeroLk_val _) mb cnt (X.map storeL) (by rfl) HM3.out _ (keyS x.1.prev) (by rfl) (WideMaps.keyOf_string_mk Tryz.underlying9 HFL.out.2) trivial (linkV y) true (by rw [HLK.out]; rfl) (by rw [HLK.out]; rfl) ?_)
            | (refine ⟨trivial, ?_⟩; gi_at_call 171; refine (callsIn_wide.2 (HCF.out _)).mono ?_; rintro e W5 ⟨rfl, hex⟩
               have HE5 := Lib.hid hex
               have r3 := linkV_box (HQ4.out _ hex).1
               have hst : (rowStore 192 ⟨gx, 0, none⟩ (linkV y)).run Tryz.prog W5 = .ok () (W5.setRow gx (linkV y).cells) := run_rowStore (P := Tryz.prog) W5 gx 192 192 (linkV x).cells (linkV y).cells (HQ4.out _ hex).2 Tryz.sizeLkv rfl (linkV_one y)
               obtain ⟨W6, hW6⟩ : ∃ W6, W6 = W5.setRow gx (linkV y).cells := ⟨_, rfl⟩
               rw [← hW6] at hst
               have HW6 := Lib.hid hW6
               clear hex r1 r2 hW6)
            | fail)
          have HE6 : Hid (Ex W3.heap.size (some gx) W3 W6) := Lib.hid (by
            rw [HW6.out]
            have h := HE4.out.trans HE5.out (by omega) (by simp)
            have h' : Ex W3.heap.size (some gx) W3 W5 := ⟨h.os, h.tape, h.output, h.size, fun b hb _ => h.block b hb (by simp)⟩
            exact h'.setRow _ _ (.inl rfl))
          have HB6 : Hid (W6.heap[gx]? = some (.cells (linkV y).cells 192 (0, 0))) := Lib.hid (by rw [HW6.out]; exact setRow_heap _ _ _ _ _ _ (HQ4.out _ HE5.out).2)
          have hcm6 : W6.cell? ⟨gm, 0, none⟩ = some (.map (some mb)) := (World.cell?_of_block (w := W3) (a := ⟨gm, 0, none⟩) (HE6.out.block gm (by omega) (fun e => hgm.2.2 (Option.some.inj e)))).trans hcm3
          have HM6 : Hid (W6.ownsMap Tryz.prog 9 valElem mb cnt (mapV (X.map storeL))) := Lib.hid (ownsMap_same HM3.out (HE6.out.block mb (by omega) (fun e => hmb.2.2 (Option.some.inj e))))
          have hz6 : N ≤ W6.heap.size := Nat.le_trans hN3 HE6.out.size
          have HFO := Lib.hid (followsL_iff.1 HFW.out.symm)
          have hnum := HFO.out.2.1
          have hf1 : 1 ≤ f := by have h1 := HFY.out.1; have h2 := HFL.out.1; omega
          obtain ⟨f', rfl⟩ : ∃ f', f = f' + 1 := ⟨f - 1, by omega⟩
          go_roundw
          case rel => exact ⟨pre ++ [x], y, f', Lib.hid (by rw [← HP.out, backX_some (show beforeX X x = some y by rw [HBF.out]; rfl), List.append_assoc]; rfl), hym, by have h1 := HFY.out.1; omega, HB6, hcm6, HM6, Lib.hid (HJ.out _ _ _ HJ3.out HE6.out), hz6⟩
          case measure => rw [numAt_eq HB6.out, numAt_eq HB.out]; have h1 := HFY.out.1; omega
    · gi_wp2
      go_end0
      exact ⟨⟨_, rfl⟩, .inr ⟨pre ++ [x], (backX X (f + 1) x).drop 1, by rw [← HP.out, List.append_assoc]; congr 1, hJx3⟩⟩
end Go.Proofs.YtdifcnhhcinonaaGreat

namespace Go.Proofs.YtdifcnhhcinonaaGreat
open Go.RowKit Go.Sort Go.Maps

/-- All that lay there lies as it lay, but for three blocks. -/
def Beside (gx N : Nat) (A B : World) : Prop := A.heap.size ≤ B.heap.size ∧ B.os = A.os ∧ B.tape = A.tape ∧ B.output = A.output ∧ ∀ b, b < A.heap.size → b ≠ gx → b ≠ N → b ≠ N + 1 → B.heap[b]? = A.heap[b]?
theorem beside_putObj {gx N : Nat} {A : World} (l : Nat) (o : Obj) (hl : l = N ∨ l = N + 1) : Beside gx N A (A.putObj l o) :=
  ⟨by simp, rfl, rfl, rfl, fun b _ _ h1 h2 => World.putObj_heap_other (by rcases hl with h | h <;> omega)⟩
theorem beside_alloc {gx N : Nat} {A : World} (o : Obj) : Beside gx N A (A.alloc o) :=
  ⟨by simp, rfl, rfl, rfl, fun b hb _ _ _ => (Ex.new A o).block b hb (by simp)⟩
theorem beside_ex {gx N : Nat} {A B : World} (h : Ex A.heap.size (some gx) A B) : Beside gx N A B :=
  ⟨h.size, h.os, h.tape, h.output, fun b hb h1 _ _ => h.block b hb (fun e => h1 (Option.some.inj e))⟩
theorem OwnS.keepB {w w' : World} {base : Nat} {ao : Option Addr} {cap : Nat} {l : List St} (h : OwnS w base ao cap l) (hb : ∀ b, base ≤ b → b < w.heap.size → w'.heap[b]? = w.heap[b]?) : OwnS w' base ao cap l := by
  obtain ⟨xs, e, h1, h2⟩ := h
  refine ⟨xs, e, ⟨h1.1, ?_⟩, fun x hx => (h2 x hx).keep fun b h hlt => hb b h.1 hlt⟩
  rcases h1.2 with h | ⟨g, c, cur, e1, e2, e3, e4⟩
  · exact .inl h
  · exact .inr ⟨g, c, cur, e1, e2, (hb g e2 (Array.getElem?_eq_some_iff.1 e3).1).trans e3, e4⟩
/-- What a round's body owes. -/
def backPost (N go : Nat) (I Ix : List (St × Sv × Sv) → World → Prop) (xs : List (St × Sv × Sv)) (W : World) : Exit → Act → World → Prop
  | .normal, _, W' => Ex (N + 2) (some go) W W' ∧ I xs W'
  | .ret, _, W' => (W'.heap[N]? = W.heap[N]? ∧ W'.heap[N + 1]? = W.heap[N + 1]?) ∧ Ix xs W'
  | _, _, _ => False

set_option maxHeartbeats 2000000 in
theorem wpIn_rangeBack {n : Nat} {g : Operand} {p : Tmp} {assign body : Code} {Q : Exit → Act → World → Prop} {a : Act} {w : World}
    (N gx gm mb cnt go : Nat) (X : List (St × Sv × Sv)) (x0 : St × Sv × Sv) (hN : w.heap.size = N)
    (hX : ∀ x ∈ X, (0 ≤ x.1.number ∧ x.1.number ≤ 200) ∧ x.1.prev.size ≤ maxLen) (hx0 : x0 ∈ X) (hgo : go < N) (hgx : gx < N ∧ gx ≠ go) (hgm : gm < N ∧ gm ≠ go ∧ gm ≠ gx) (hmb : mb < N ∧ mb ≠ go ∧ mb ≠ gx)
    (hW1 : w.heap[gx]? = some (.cells (linkV x0).cells 192 (0, 0))) (hW2 : w.cell? ⟨gm, 0, none⟩ = some (.map (some mb))) (hW3 : w.ownsMap Tryz.prog 9 valElem mb cnt (mapV (X.map storeL)))
    (hg : a.eval g = .func (.func 220) #[] #[.pointer (some ⟨gx, 0, none⟩), .pointer (some ⟨gm, 0, none⟩)])
    (I Ix : List (St × Sv × Sv) → World → Prop) (hI : ∀ pre A B, I pre A → Beside gx N A B → I pre B) (hIx : ∀ pre A B, Ix pre A → Beside gx N A B → Ix pre B) (h0 : I [] w) (a₁ : St × Sv × Sv → Nat → Act)
    (hassign : ∀ (l : Nat) (x : St × Sv × Sv) (W : World) (K : Act → World → Prop) (gb : Nat), gb = W.heap.size → K (a₁ x gb) (W.alloc (.cells (linkV x).cells 192)) →
      assign.wpIn (Fence.wide.inRound l) 0 Tryz.prog (Exit.then K (fun _ _ _ => False)) { tmps := (#[p].zip #[linkV x]).foldl (fun t (q, v) => t.setIfInBounds q v) a.tmps, defers := [] } W)
    (hbody : ∀ (pre : List (St × Sv × Sv)) (x : St × Sv × Sv) (W : World) (gb : Nat), I pre W → x ∈ X → pre.length ≤ 200 → W.heap[gb]? = some (.cells (linkV x).cells 192 (0, 0)) → N + 2 ≤ gb → gb < W.heap.size →
      body.wpIn (Fence.wide.inRound (N + 1)) 0 Tryz.prog (backPost N go I Ix (pre ++ [x]) W) (a₁ x gb) W)
    (hdone : ∀ (W : World), I (backX X 201 x0) W → W.heap[N]? = some (.deferred (some [])) → Q .normal { a with defers := { target := .collected N, args := #[] } :: a.defers } W)
    (hstop : ∀ (pre rest : List (St × Sv × Sv)) (W : World), pre ++ rest = backX X 201 x0 → Ix pre W → W.heap[N]? = some (.deferred (some [])) → Q .ret { a with defers := { target := .collected N, args := #[] } :: a.defers } W) :
    (Code.rangeFunc g #[p] assign body).wpIn Fence.wide n Tryz.prog Q a w := by
  subst hN
  refine wpIn_rangeFunc ?_
  intro fn hfn
  obtain ⟨rec, hrec⟩ : ∃ rec : LoopState → Option Code → Loop, rec = fun st pe => { state := st, pending := pe, fn, tmps := a.tmps, params := #[p], assign, body, defers := w.heap.size } := ⟨_, rfl⟩
  obtain ⟨W1, hW1'⟩ : ∃ W1, (w.alloc (.deferred (some []))).alloc (.loop (rec .ready none)) = W1 := ⟨_, rfl⟩
  have hL1 : W1.heap[w.heap.size + 1]? = some (.loop (rec .ready none)) := by
    rw [← hW1']; have := World.alloc_heap_new (w.alloc (.deferred (some []))) (.loop (rec .ready none)); rwa [World.size_alloc] at this
  have hK1 : W1.heap[w.heap.size]? = some (.deferred (some [])) := by
    rw [← hW1']; exact (Below.heap_alloc _ _ _ (by simp)).trans (World.alloc_heap_new w _)
  have hS1 : W1.heap.size = w.heap.size + 2 := by rw [← hW1']; simp
  have hE1 : Ex w.heap.size none w W1 := by rw [← hW1']; exact (Ex.new w _).alloc (by simp) _
  have hI1 : I [] W1 := by rw [← hW1']; exact hI _ _ _ (hI _ _ _ h0 (beside_alloc _)) (beside_alloc _)
  refine ⟨w.heap.size + 1, [{ target := .collected w.heap.size, args := #[] }], W1, { target := .fn (.func 220) #[.pointer (some ⟨gx, 0, none⟩), .pointer (some ⟨gm, 0, none⟩)], args := #[.func (.yield (w.heap.size + 1)) #[] #[]] }, W1, 220,
    #[.func (.yield (w.heap.size + 1)) #[] #[]] ++ #[.pointer (some ⟨gx, 0, none⟩), .pointer (some ⟨gm, 0, none⟩)], W1, ?_, ?_, ?_, ?_, fun h => (by cases h), ?_⟩
  · rw [← hW1', hrec]; exact run_enterLoop_outer _ _ _ _ _
  · simp only [resolve, hg]
    simp [go_sem]
  · intro f' hf'; trivial
  · simp [invoke, go_sem]
  · refine ((callsIn_wide (n := n - 1)).2 ((callsIn_wide (n := 1)).1 (back1_in (w.heap.size + 1) gx gm mb cnt w.heap.size go X x0
      (fun pre W => I pre W ∧ W.heap[w.heap.size + 1]? = some (.loop (rec .ready none)) ∧ W.heap[w.heap.size]? = some (.deferred (some [])) ∧ w.heap.size + 2 ≤ W.heap.size)
      (fun pre W => Ix pre W ∧ W.heap[w.heap.size + 1]? = some (.loop (rec .done (some .ret))) ∧ W.heap[w.heap.size]? = some (.deferred (some [])))
      W1 hX hx0 hgx hgm hmb (by omega) ?_ ?_ ((hE1.block gx hgx.1 (by simp)).trans hW1) ((World.cell?_of_block (w := w) (a := ⟨gm, 0, none⟩) (hE1.block gm hgm.1 (by simp))).trans hW2) (ownsMap_same hW3 (hE1.block mb hmb.1 (by simp))) ⟨hI1, hL1, hK1, by omega⟩))).mono ?_
    · rintro pre A B ⟨hi, hl, hk, hs⟩ hex
      exact ⟨hI _ _ _ hi (beside_ex hex), (hex.block _ (by omega) (fun e => by have := Option.some.inj e; omega)).trans hl, (hex.block _ (by omega) (fun e => by have := Option.some.inj e; omega)).trans hk, Nat.le_trans hs hex.size⟩
    · rintro pre x W ⟨hi, hl, hk, hs⟩ hxm hpl
      have hy := run_yield (P := Tryz.prog) (args := #[linkV x]) hl (by rw [hrec]; rfl)
      rw [hrec] at hy
      refine ⟨fn, _, assign, body, hy, roundIn_of_wpIn hfn (hassign _ x W _ _ rfl ?_)⟩
      have hlA : (W.alloc (.cells (linkV x).cells 192)).heap[w.heap.size + 1]? = some (.loop (rec .ready none)) := ((Ex.new W _).block _ (by omega) (by simp)).trans hl
      have hkA : (W.alloc (.cells (linkV x).cells 192)).heap[w.heap.size]? = some (.deferred (some [])) := ((Ex.new W _).block _ (by omega) (by simp)).trans hk
      have hsA : (W.alloc (.cells (linkV x).cells 192)).heap.size = W.heap.size + 1 := by simp
      have hbA : (W.alloc (.cells (linkV x).cells 192)).heap[W.heap.size]? = some (.cells (linkV x).cells 192 (0, 0)) := heap_alloc_new W _
      have hiA := hI _ _ _ hi (beside_alloc (gx := gx) (N := w.heap.size) (.cells (linkV x).cells 192))
      have hEA : Ex (w.heap.size + 2) none W (W.alloc (.cells (linkV x).cells 192)) := (Ex.new W _).mono hs
      generalize W.alloc (.cells (linkV x).cells 192) = WA at hlA hkA hsA hbA hiA hEA ⊢
      refine ⟨_, run_beginRound hlA (by rw [hrec]), ?_⟩
      obtain ⟨WB, hWB⟩ : ∃ WB, WB = WA.putObj (w.heap.size + 1) (.loop { rec .ready none with state := .busy }) := ⟨_, rfl⟩
      have hlB : WB.heap[w.heap.size + 1]? = some (.loop { rec .ready none with state := .busy }) := by rw [hWB]; exact World.putObj_heap_same (by omega)
      have hkB : WB.heap[w.heap.size]? = some (.deferred (some [])) := by rw [hWB]; exact (World.putObj_heap_other (by omega)).trans hkA
      have hsB : WB.heap.size = W.heap.size + 1 := by rw [hWB]; simp; omega
      have hbB : WB.heap[W.heap.size]? = some (.cells (linkV x).cells 192 (0, 0)) := by rw [hWB]; exact (World.putObj_heap_other (by omega)).trans hbA
      have hiB := hI _ _ _ hiA (beside_putObj (gx := gx) (N := w.heap.size) (w.heap.size + 1) (.loop { rec .ready none with state := .busy }) (.inr rfl))
      rw [← hWB] at hiB ⊢
      have hEB : Ex w.heap.size none W WB := by
        rw [hWB]
        exact ⟨hEA.os, hEA.tape, hEA.output, by simp; omega, fun b hb _ => (World.putObj_heap_other (by omega)).trans (hEA.block b (by omega) (by simp))⟩
      clear hWB
      refine wpIn_mono (hbody pre x WB W.heap.size hiB hxm hpl hbB hs (by omega)) ?_
      rintro e a3 W3 hp
      cases e with
      | normal =>
        obtain ⟨hk3, hi3⟩ := hp
        have hl3 : W3.heap[w.heap.size + 1]? = some (.loop { rec .ready none with state := .busy }) := (hk3.block _ (by omega) (fun e => by have := Option.some.inj e; omega)).trans hlB
        have hd3 : W3.heap[w.heap.size]? = some (.deferred (some [])) := (hk3.block _ (by omega) (fun e => by have := Option.some.inj e; omega)).trans hkB
        have hr := run_endRound (P := Tryz.prog) none hl3
        refine ⟨_, _, hr, .inl ⟨rfl, ⟨hI _ _ _ hi3 (beside_putObj _ _ (.inr rfl)), ?_, (World.putObj_heap_other (by omega)).trans hd3, by have := hk3.size; simp; omega⟩, ?_⟩⟩
        · rw [World.putObj_heap_same (Array.getElem?_eq_some_iff.1 hl3).1, hrec]; rfl
        · have hE3 := hEB.trans (hk3.mono (show w.heap.size ≤ w.heap.size + 2 by omega)) (Nat.le_refl _) (p' := some go)
          exact ⟨hk3.os.trans hEB.os, hk3.tape.trans hEB.tape, hk3.output.trans hEB.output, by have := hk3.size; have := hEB.size; simp; omega, fun b hb hne => (World.putObj_heap_other (by omega)).trans ((hk3.block b (by omega) hne).trans (hEB.block b hb (by simp)))⟩
      | ret =>
        obtain ⟨⟨hd, hl⟩, hi3⟩ := hp
        have hl3 := hl.trans hlB
        have hd3 := hd.trans hkB
        have hr := run_endRound (P := Tryz.prog) (some .ret) hl3
        refine ⟨_, _, hr, .inr ⟨rfl, hIx _ _ _ hi3 (beside_putObj _ _ (.inr rfl)), ?_, (World.putObj_heap_other (by omega)).trans hd3⟩⟩
        rw [World.putObj_heap_same (Array.getElem?_eq_some_iff.1 hl3).1, hrec]; rfl
      | exit id => exact hp.elim
      | goto t => exact hp.elim
      | panic ch => exact hp.elim
      | outgrown => exact hp.elim
    · rintro e W2 ⟨⟨v, rfl⟩, (⟨hi, hl, hk, hs⟩ | ⟨pre, rest, hpr, hi, hl, hk⟩)⟩
      · have hr := run_endLoop (P := Tryz.prog) hl (by rw [hrec]; simp)
        refine ⟨none, _, by have h9 := hr; rw [hrec] at h9; exact h9, ?_⟩
        exact hdone _ (hI _ _ _ hi (beside_putObj _ _ (.inr rfl))) ((World.putObj_heap_other (by omega)).trans hk)
      · have hr := run_endLoop (P := Tryz.prog) hl (by rw [hrec]; simp)
        refine ⟨some .ret, _, by have h9 := hr; rw [hrec] at h9; exact h9, ?_⟩
        exact wpIn_ret (hstop pre rest _ hpr (hIx _ _ _ hi (beside_putObj _ _ (.inr rfl))) ((World.putObj_heap_other (by omega)).trans hk))
end Go.Proofs.YtdifcnhhcinonaaGreat

namespace Go.Proofs.YtdifcnhhcinonaaGreat
open Go.RowKit Go.Sort Go.Lib

/-- What slices.Reverse leans on of a program. -/
structure LayRev (P : Program) (k : Nat) : Prop where
  mixed : P.follows .mixedOrders = true
  fR : P.funcs[176]? = some Tryz.f176
  t0 : P.underlying 0 = some (TypeDesc.tuple #[])
  a0 : ∀ w, (isAgg 0).run P w = .ok false w
  z0 : ∀ w, (Go.sizeOf 0).run P w = .ok 1 w
  v0 : ∀ w, (zeroValue 0).run P w = .ok (Value.tuple #[]) w
  t1 : P.underlying 3 = some (TypeDesc.int IntKind.i64)
  a1 : ∀ w, (isAgg 3).run P w = .ok false w
  z1 : ∀ w, (Go.sizeOf 3).run P w = .ok 1 w
  v1 : ∀ w, (zeroValue 3).run P w = .ok (Value.int IntKind.i64 0) w
  t2 : P.underlying 4 = some (TypeDesc.bool)
  a2 : ∀ w, (isAgg 4).run P w = .ok false w
  z2 : ∀ w, (Go.sizeOf 4).run P w = .ok 1 w
  v2 : ∀ w, (zeroValue 4).run P w = .ok (Value.bool false) w
  t4 : P.underlying 22 = some (TypeDesc.slice 28)
  a4 : ∀ w, (isAgg 22).run P w = .ok false w
  z4 : ∀ w, (Go.sizeOf 22).run P w = .ok 1 w
  v4 : ∀ w, (zeroValue 22).run P w = .ok (Value.slice none 0 0) w
  aE : ∀ w, (isAgg 28).run P w = .ok true w
  zE : ∀ w, (Go.sizeOf 28).run P w = .ok k w
theorem layRev : LayRev Tryz.prog 13 := {
  mixed := by kernel_rfl
  fR := Tryz.func176
  t0 := Tryz.underlying0
  a0 := Tryz.isAgg0
  z0 := Tryz.sizeOf0
  v0 := Tryz.zeroValue0
  t1 := Tryz.underlying3
  a1 := Tryz.isAgg3
  z1 := Tryz.sizeOf3
  v1 := Tryz.zeroValue3
  t2 := Tryz.underlying4
  a2 := Tryz.isAgg4
  z2 := Tryz.sizeOf4
  v2 := Tryz.zeroValue4
  t4 := Tryz.underlying22
  a4 := Tryz.isAgg22
  z4 := Tryz.sizeOf22
  v4 := Tryz.zeroValue22
  aE := Tryz.isAgg28
  zE := Tryz.sizeOf28 }

variable {P : Program} {α : Type} [Inhabited α]
set_option maxHeartbeats 8000000 in
set_option maxRecDepth 1000000 in
theorem reverseK_any {k : Nat} (L : LayRev P k) (enc : α → List Value) (hk : ∀ x, (enc x).length = k) (h1 : ∀ x, ∀ v ∈ enc x, v.oneCell' = true) (g off cap n : Nat) (d : Array α) (w : World) (hH : HoldsK enc k w g off d) (hg : g < w.heap.size) (hn : d.size = n) (hsz : n ≤ 1000000) (cur : Array Value) (ty : TypeId) (fr : Nat × Nat) (hB : w.heap[g]? = some (.cells cur ty fr)) :
    Calls P 176 #[.slice (some ⟨g, off, none⟩) n cap] w fun e w' => e = .returned (.tuple #[]) ∧ HoldsK enc k w' g off d.reverse ∧ Ex w.heap.size (some g) w w' ∧ ∃ cur', w'.heap[g]? = some (.cells cur' ty fr) ∧ cur'.size = cur.size := by
  have mixed := L.mixed; have t0 := L.t0; have a0 := L.a0; have z0 := L.z0; have v0 := L.v0; have t1 := L.t1; have a1 := L.a1; have z1 := L.z1; have v1 := L.v1; have t2 := L.t2; have a2 := L.a2; have z2 := L.z2; have v2 := L.v2; have t4 := L.t4; have a4 := L.a4; have z4 := L.z4; have v4 := L.v4; have aE := L.aE; have zE := L.zE
  have u4 := run_underlying L.t4
  have HK : Hid (∀ x, (enc x).length = k) := hk
  have H1 : Hid (∀ x, ∀ v ∈ enc x, v.oneCell' = true) := h1
  clear hk h1
  go_enter L.fR, Tryz.ntmps176
  go_wp2
  go_loopg [2, 3] n (fun kk s2 s3 wr => ∃ (i jn : Nat) (jz : Int) (dk : Array α), s2 = .int .i64 i ∧ s3 = .int .i64 jz ∧ ((i : Int) < jz → jz = jn ∧ jn < n) ∧ (¬ (i : Int) < jz → ¬ i < jn) ∧ jn - i ≤ kk ∧
    dk.size = n ∧ HoldsK enc k wr g off dk ∧ Ex w.heap.size (some g) w wr ∧ reverseLoop i jn dk = reverseLoop 0 (n - 1) d ∧ Hid (∃ cur', wr.heap[g]? = some (.cells cur' ty fr) ∧ cur'.size = cur.size))
  case atStart => exact ⟨0, n - 1, (n : Int) - 1, d, rfl, rfl, fun h => ⟨by omega, by omega⟩, fun h => by omega, by omega, hn, hH, Ex.refl _ _ _, rfl, Lib.hid ⟨cur, hB, rfl⟩⟩
  case round =>
    obtain ⟨i, jn, jz, dk, rfl, rfl, c1, c2, hkk, hdk, hHk, hex, heq, HCB⟩ := hrel
    have hsz' := hex.size
    by_cases hlt : (i : Int) < jz
    · obtain ⟨rfl, hjn⟩ := c1 hlt
      have hij : i < jn := by omega
      have hHd : HoldsK enc k wr.drew g off dk := hHk
      obtain ⟨vx, hvx⟩ : ∃ v, dk[i]! = v := ⟨_, rfl⟩
      obtain ⟨vy, hvy⟩ : ∃ v, dk[jn]! = v := ⟨_, rfl⟩
      have bnd : ∀ x, x < dk.size → x * k + k ≤ dk.size * k := fun x hx => by
        have := Nat.mul_le_mul_right k (show x + 1 ≤ dk.size from hx); rwa [Nat.add_mul, Nat.one_mul] at this
      have lx : Sem.run P (loadCellsFrom ⟨g, off + i * k, none⟩ 0 k #[]) wr.drew = .ok (enc vx).toArray wr.drew := by rw [← hvx]; exact run_loadCellsFrom_list P _ _ _ k (HK.out _) (HoldsK.cells hHd HK.out (by omega))
      have ly : Sem.run P (loadCellsFrom ⟨g, off + jn * k, none⟩ 0 k #[]) wr.drew = .ok (enc vy).toArray wr.drew := by rw [← hvy]; exact run_loadCellsFrom_list P _ _ _ k (HK.out _) (HoldsK.cells hHd HK.out (by omega))
      have s1 : Sem.run P (storeCells ⟨g, off + i * k, none⟩ (enc vy) 0) wr.drew = .ok () (wr.drew.setCells g (off + i * k) (enc vy)) := stores_of_holds P hHd (i * k) _ (by rw [HK.out, size_flatK]; exact bnd i (by omega)) (H1.out _)
      have s2 : Sem.run P (storeCells ⟨g, off + jn * k, none⟩ (enc vx) 0) (wr.drew.setCells g (off + i * k) (enc vy)) = .ok () ((wr.drew.setCells g (off + i * k) (enc vy)).setCells g (off + jn * k) (enc vx)) :=
        stores_of_holds P (holds_setCells_c hHd (i * k) _ (by rw [HK.out, size_flatK]; exact bnd i (by omega))) (jn * k) _ (by rw [HK.out, size_setMany, size_flatK]; exact bnd jn (by omega)) (H1.out _)
      have hsX : (enc vx).length = k := HK.out _
      have hsY : (enc vy).length = k := HK.out _
      clear bnd
      have HHk := Lib.hid hHk
      clear hHd hHk
      obtain ⟨cX, hcX⟩ : ∃ c, c = enc vx := ⟨_, rfl⟩
      obtain ⟨cY, hcY⟩ : ∃ c, c = enc vy := ⟨_, rfl⟩
      rw [← hcX] at lx hsX
      rw [← hcY] at ly hsY
      rw [← hcY] at s1
      rw [← hcX, ← hcY] at s2
      have CC : Hid (cX = enc vx ∧ cY = enc vy ∧ dk[i]! = vx ∧ dk[jn]! = vy) := ⟨hcX, hcY, hvx, hvy⟩
      clear hcX hcY hvx hvy
      have HD := Lib.hid hdk
      have HEQ := Lib.hid heq
      have HEX := Lib.hid hex
      clear hdk heq hex c1 c2 hH hn
      go_wp2_with fail
      go_big_region_o
      all_goals go_wp2
      go_roundg (jn - 1 - (i + 1))
      case measure => omega
      case rel =>
        have hdk := HD.out
        obtain ⟨k1, k2⟩ := swapWorldK enc k HK.out wr g off dk i jn HHk.out (by omega) (by omega) (by omega)
        have heq := HEQ.out
        rw [reverseLoop, if_pos hij] at heq
        refine ⟨i + 1, jn - 1, (jn : Int) - 1, swp dk i jn, by go_num, rfl, fun h => ⟨by omega, by omega⟩, fun h => by omega, Nat.le_refl _, by rw [size_swp]; exact hdk, ?_, ?_, heq, Lib.hid ?_⟩
        · rw [CC.out.1, CC.out.2.1, ← CC.out.2.2.1, ← CC.out.2.2.2]; exact k1
        · rw [CC.out.1, CC.out.2.1, ← CC.out.2.2.1, ← CC.out.2.2.2]; exact HEX.out.trans k2 hsz' (fun q e _ => by cases e; rfl)
        · obtain ⟨cu, hcu, hcs⟩ := HCB.out
          obtain ⟨cv, hcv, hcs2⟩ := setCells_there (w := wr.drew) cY (off + i * k) hcu
          obtain ⟨cz, hcz, hcs3⟩ := setCells_there cX (off + jn * k) hcv
          exact ⟨cz, hcz, by omega⟩
    · have hnot := c2 hlt
      go_wp2
      go_end0
      rw [reverseLoop, if_neg hnot] at heq
      refine ⟨rfl, ?_, hex, HCB.out⟩
      have e := reverseLoop_reverse d
      rw [hn] at e
      rw [← e, ← heq]; exact hHk

theorem reverseSt_none (p : Option Addr) (cap : Nat) (w : World) : Calls Tryz.prog 176 #[.slice p 0 cap] w fun e w' => e = .returned (.tuple #[]) ∧ w' = w := by
  go_enter Tryz.func176, Tryz.ntmps176
  go_wp2
  go_loopw [2, 3] (fun a b wr => a = .int .i64 0 ∧ b = .int .i64 (-1) ∧ wr = w) (fun _ _ _ => 0)
  case atStart => exact ⟨rfl, rfl, rfl⟩
  case round =>
    obtain ⟨rfl, rfl, rfl⟩ := hrel
    go_wp2
    go_end0
    exact ⟨rfl, rfl⟩
/-- slices.Reverse at an owned row of statements. -/
theorem reverse_own (base n rc : Nat) (ro : Option Addr) (l : List St) (w : World) (hO : OwnS w base ro rc l) (hn : l.length = n) (hm : n ≤ 1000000) (hb : base ≤ w.heap.size) :
    Calls Tryz.prog 176 #[.slice ro n rc] w fun e w' => e = .returned (.tuple #[]) ∧ OwnS w' base ro rc l.reverse ∧ Ex base none w w' ∧ Ex w.heap.size (rowOf ro) w w' := by
  obtain ⟨xs, hxs, hown, hlies⟩ := hO
  have hxl : xs.length = n := by rw [← hn, ← hxs]; simp
  have hres : xs.reverse.map (·.1) = l.reverse := by rw [List.map_reverse, hxs]
  rcases hown.2 with ⟨e, e2⟩ | ⟨g, cap, cur, e, hg, hh, hnc, hcm, hcs, htk⟩
  · have hl0 : xs = [] := List.eq_nil_of_length_eq_zero e2
    obtain rfl : n = 0 := by rw [← hxl, hl0]; rfl
    have hl1 : l = [] := by rw [← hxs, hl0]; rfl
    subst hl1
    exact (reverseSt_none ro rc w).mono fun e w' ⟨h1, h2⟩ => by subst h2; exact ⟨h1, ⟨xs, by rw [hxs]; rfl, hown, hlies⟩, Ex.refl _ _ _, Ex.refl _ _ _⟩
  · simp only [Value.slice.injEq] at e
    obtain ⟨rfl, _, rfl⟩ := e
    have hgw : g < w.heap.size := (Array.getElem?_eq_some_iff.1 hh).1
    refine (reverseK_any layRev stE stE_len one_stE g 0 rc n xs.toArray w (hown.holds stE_len) hgw (by simpa using hxl) hm cur _ _ hh).mono ?_
    rintro e w' ⟨rfl, hH, hex, cur', hc1, hc2⟩
    have hE : Ex base none w w' := ⟨hex.os, hex.tape, hex.output, hex.size, fun b hb' _ => hex.block b (by omega) (fun e => by have := Option.some.inj e; omega)⟩
    refine ⟨rfl, ⟨xs.reverse, hres, ?_, fun x hx => ?_⟩, hE, hex⟩
    · refine own_of_cells (n := xs.length) stE_len hg hc1 (by rw [List.length_reverse]) hnc hcm (by rw [hc2]; exact hcs) fun j v hj => ?_
      have hl := flatL_len stE_len xs.reverse
      have hjl := (List.getElem?_eq_some_iff.1 hj).1
      rw [hl] at hjl
      have hm1 : j / 13 * 13 + j % 13 = j := Nat.div_add_mod' j 13
      have hq : j / 13 < xs.reverse.length := by omega
      have hc : j % 13 < 13 := Nat.mod_lt _ (by decide)
      have e1 := flatL_get stE_len xs.reverse (j / 13) (j % 13) hq hc
      rw [hm1, hj] at e1
      have hr := holdsK_range stE_len hH (j / 13) (by simpa using hq)
      have e3 : (xs.toArray.reverse)[j / 13]! = xs.reverse[j / 13] := by
        rw [getElem!_pos (xs.toArray.reverse) (j / 13) (by simpa using hq)]
        simp
      rw [e3] at hr
      have := hr (j % 13) v e1.symm
      rw [show 0 + j / 13 * 13 + j % 13 = j by omega] at this
      exact this
    · exact (hlies x (List.mem_reverse.1 hx)).keep fun b hb' hlt => hex.block b hlt (fun e => hb'.2 e.symm)
end Go.Proofs.YtdifcnhhcinonaaGreat

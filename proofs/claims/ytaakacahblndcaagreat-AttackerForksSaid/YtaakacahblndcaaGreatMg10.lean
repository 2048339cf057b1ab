/- Statements as values that the walk does not open; contracts in these words. No statement of the seat. | store.Valid: a contract, no statement of the seat. | append of one statement to a slice of statements that the call owns, as a run and in a fence. No statement of the seat. | The library's binary search at statements, in the order of a store: a contract, no statement of the seat. | slices.Insert at statements: contracts, after the guide's walk at elements of one cell. No statement of the seat. | slices.Insert of one statement into an owned row of statements: a contract, no statement of the seat. | shelf.Put: a contract, no statement of the seat. -/
import Derived.Test.YtaakacahblndcaaGreatMg00
import Derived.Test.YtaakacahblndcaaGreatCheckPG
import Derived.Test.YtaakacahblndcaaGreatMg09
import Derived.Test.YtaakacahblndcaaGreatMg06
import Derived.Test.YtaakacahblndcaaGreatMg07
import Derived.Deep.MidRow
import Derived.Test.YtaakacahblndcaaGreatMg04
import Derived.OwnWalkIn
import Derived.Test.YtaakacahblndcaaGreatMg03
import Derived.Lib.AppendZeros
import Derived.Lib.AppendZerosOnto
import Derived.Lib.Overlaps
import Derived.Laws.Externs
import Derived.Laws.IdiomCopy
import Derived.Laws.NewBlocks
import Derived.Lib.Walk
import Derived.Lib.SliceRun
import Derived.Lib.JoinLaws
import Derived.Shelf.RegionOpenPlain
namespace Go.Proofs.YtaakacahblndcaaGreat
open Go.RowKit Go.Sort

theorem rowStore_stv (a : Addr) (v : Value) : storeVar 37 a v = rowStore 37 a v := rfl
theorem rowLoad_stv (a : Addr) : loadVar 37 a = rowLoad 37 a := rfl
theorem Tryz.sizeStv : (Tryz.prog.info? 37).map (·.size) = some 13 := by kernel_rfl
/-- The goal at whatever world for which a property holds. -/
theorem wp_world {P : Program} {c : Code} {Q : Exit → Act → World → Prop} {a : Act} {W : World} (p : World → Prop) (hW : p W) (h : ∀ wq, p wq → c.wp P Q a wq) : c.wp P Q a W := h W hW
/-- A statement as a value. -/
def stV (x : St × Sv × Sv) : Value := .agg (stE x).toArray
theorem stV_cells (x : St × Sv × Sv) : (stV x).cells = (stE x).toArray := rfl
theorem stV_one (x : St × Sv × Sv) : (stV x).cells.all (·.oneCell') = true := by
  rw [Array.all_eq_true_iff_forall_mem]
  intro v hv
  exact one_stE x v (by simpa [stV_cells] using hv)
theorem stV_load {w : World} {b o : Nat} {x : St × Sv × Sv} (h : w.rangeAt b o (stE x)) : (rowLoad 37 ⟨b, o, none⟩).run Tryz.prog w = .ok (stV x) w :=
  run_loadVar_mid w b o 37 (stE x) _ h Tryz.underlying37 rfl Tryz.sizeStv
theorem stV_box {w : World} {g : Nat} {x : St × Sv × Sv} {t : TypeId} {fr : Nat × Nat} (h : w.heap[g]? = some (.cells (stV x).cells t fr)) : (rowLoad 37 ⟨g, 0, none⟩).run Tryz.prog w = .ok (stV x) w :=
  run_rowLoad (P := Tryz.prog) w g t 37 (stE x).toArray fr _ h Tryz.underlying37 rfl Tryz.sizeStv
theorem alloc_setRow (w : World) (old cs : Array Value) (t : TypeId) : (w.alloc (.cells old t)).setRow w.heap.size cs = w.alloc (.cells cs t) := by
  unfold World.alloc World.setRow
  congr 1
  apply Array.ext
  · simp
  · intro i h1 h2
    simp only [Array.getElem_modify]
    by_cases e : w.heap.size = i
    · subst e; simp
    · have : i < w.heap.size := by simp at h2; omega
      rw [if_neg e, Array.getElem_push_lt this, Array.getElem_push_lt this]
theorem stV_new (w : World) (old : Array Value) (x : St × Sv × Sv) (ho : old.size = 13) : (rowStore 37 ⟨w.heap.size, 0, none⟩ (stV x)).run Tryz.prog (w.alloc (.cells old 37)) = .ok () (w.alloc (.cells (stV x).cells 37)) := by
  have h := run_rowStore (P := Tryz.prog) (w.alloc (.cells old 37)) w.heap.size 37 37 old (stV x).cells (heap_alloc_new w _) Tryz.sizeStv (by rw [ho]; rfl) (stV_one x)
  rw [alloc_setRow] at h
  exact h
/-- An element of a slice of statements, known whole. -/
theorem stv_get {P : Nat → Prop} {w : World} {ao : Option Addr} {l : List St} (h : SlAt stRep P w ao l) (k : Nat) (hk : k < l.length) :
    ∃ b off x, ao = some ⟨b, off, none⟩ ∧ P b ∧ b < w.heap.size ∧ Hid (l[k]? = some x.1) ∧ Lies P w x ∧ Hid (∀ w', w'.heap[b]? = w.heap[b]? → (rowLoad 37 ⟨b, off + k * 13, none⟩).run Tryz.prog w' = .ok (stV x) w') := by
  obtain ⟨b, off, s, l', p, e, hp, hl, hr, hx⟩ := st_get h k hk
  exact ⟨b, off, (s, l', p), e, hp, rangeAt_lt hr (by rw [stE_len]; decide), hx, hl, Lib.hid fun w' hw => stV_load (rangeAt_keep hr hw)⟩
theorem lies_len {P : Nat → Prop} {w : World} {x : St × Sv × Sv} (h : Lies P w x) : x.2.1.n = x.1.list.length ∧ x.2.2.n = x.1.pins.length := by
  obtain ⟨⟨_, _, e, _⟩, ⟨_, _, e', _⟩⟩ := h
  simp only [Sv.v, Value.slice.injEq] at e e'
  exact ⟨e.2.1, e'.2.1⟩
theorem check_v {P : Nat → Prop} (x : St × Sv × Sv) (w : World) (h : Lies P w x) (hm : x.1.list.length ≤ 9223372036854775807 ∧ x.1.pins.length ≤ 9223372036854775807) :
    Calls Tryz.prog 39 #[stV x] w fun e w' => e = .returned (.int .i64 (checkI x.1)) ∧ Ex w.heap.size none w w' := by
  have hl := lies_len h
  obtain ⟨s, ⟨lo, ln, lc⟩, ⟨po, pn, pc⟩⟩ := x
  exact checkP_any s lo po ln lc pn pc w h (by have h1 := hl.1; have h2 := hl.2; simp only at h1 h2 hm; omega)
theorem sealed_v {P : Nat → Prop} (x : St × Sv × Sv) (w : World) (h : Lies P w x) (ht : Tame x.1) :
    Calls Tryz.prog 54 #[stV x] w fun e w' => e = .returned (.bool (sealedB x.1)) ∧ Ex w.heap.size none w w' := by
  obtain ⟨s, ⟨lo, ln, lc⟩, ⟨po, pn, pc⟩⟩ := x
  exact sealedP_any s lo po ln lc pn pc w h ht
theorem digest_v {P : Nat → Prop} (x : St × Sv × Sv) (w : World) (h : Lies P w x) (ht : Tame x.1) :
    Calls Tryz.prog 38 #[stV x] w fun e w' => e = .returned (.string (sha (stB x.1))) ∧ Ex w.heap.size none w w' := by
  obtain ⟨s, ⟨lo, ln, lc⟩, ⟨po, pn, pc⟩⟩ := x
  exact digestP_any s lo po ln lc pn pc w h ht
theorem shelfCmp_v (x y : St × Sv × Sv) (w : World) :
    Calls Tryz.prog 120 #[stV x, stV y] w fun e w' => e = .returned (.int .i64 (cmpA x.1 y.1)) ∧ Ex w.heap.size none w w' :=
  (shelfCmp_raw x y w).mono fun _ _ ⟨h, q, os, hw⟩ => ⟨h, by subst hw; exact ⟨rfl, rfl, rfl, by rw [size_grow]; exact Nat.le_add_right _ _, fun k hk _ => heap_grow_old (w.drewN q) os hk⟩⟩
end Go.Proofs.YtaakacahblndcaaGreat

namespace Go.Proofs.YtaakacahblndcaaGreat
open Go.RowKit Go.Sort
attribute [local go_sem ↓] rowLoad_stv rowStore_stv

/-- The statement at a place stands behind the one ahead of it. -/
def behindAt (l : List St) (s : St) : Nat → Bool
  | 0 => true
  | j + 1 => match l[j]? with
    | none => true
    | some t => ltA t s
/-- What a store asks of the statement at a place. -/
def rightAt (l : List St) (k : Nat) : Bool := match l[k]? with
  | none => true
  | some s => decide (checkI s = 0) && sealedB s && behindAt l s k
theorem behindAt_succ {l : List St} {s t : St} {j : Nat} (h : l[j]? = some t) : behindAt l s (j + 1) = ltA t s := by simp only [behindAt, h]
/-- store.Valid. -/
def validB (l : List St) : Bool := decide (l.length ≤ 1000) && (List.range l.length).all fun k => rightAt l k
def Goods (l : List St) (k : Nat) : Prop := ∀ j, j < k → rightAt l j = true
theorem goods_succ {l : List St} {k : Nat} (h : Goods l k) (hk : rightAt l k = true) : Goods l (k + 1) := fun j hj => by
  by_cases e : j = k
  · rw [e]; exact hk
  · exact h j (by omega)
theorem validB_no {l : List St} {k : Nat} (hk : k < l.length) (h : rightAt l k = false) : validB l = false := by
  unfold validB
  rw [Bool.and_eq_false_iff]
  right
  rw [List.all_eq_false]
  exact ⟨k, List.mem_range.2 hk, by simp [h]⟩
theorem validB_yes {l : List St} (h1 : l.length ≤ 1000) (h : Goods l l.length) : validB l = true := by
  unfold validB
  rw [Bool.and_eq_true]
  refine ⟨decide_eq_true h1, ?_⟩
  rw [List.all_eq_true]
  intro k hk
  exact h k (List.mem_range.1 hk)
theorem validB_len {l : List St} (h : validB l = true) : l.length ≤ 1000 := by
  unfold validB at h
  rw [Bool.and_eq_true] at h
  exact of_decide_eq_true h.1
theorem validB_goods {l : List St} (h : validB l = true) : Goods l l.length := by
  unfold validB at h
  rw [Bool.and_eq_true, List.all_eq_true] at h
  exact fun j hj => h.2 j (List.mem_range.2 hj)
theorem rightAt_eq {l : List St} {k : Nat} {s : St} (h : l[k]? = some s) : rightAt l k = (decide (checkI s = 0) && sealedB s && behindAt l s k) := by
  simp only [rightAt, h]
theorem goods_of {l : List St} (h : ∀ s ∈ l, checkI s = 0 ∧ sealedB s = true) (hs : ∀ (j : Nat) (s t : St), l[j]? = some s → l[j + 1]? = some t → ltA s t = true) : Goods l l.length := fun k hk => by
  obtain ⟨s, hs1⟩ : ∃ s, l[k]? = some s := ⟨_, List.getElem?_eq_getElem hk⟩
  have hm := h s (List.mem_of_getElem? hs1)
  rw [rightAt_eq hs1, hm.2]
  simp only [hm.1, decide_true, Bool.true_and, Bool.and_true]
  cases k with
  | zero => rfl
  | succ j =>
    obtain ⟨t, ht⟩ : ∃ t, l[j]? = some t := ⟨_, List.getElem?_eq_getElem (by omega)⟩
    rw [behindAt_succ ht]
    exact hs j t s ht hs1
theorem validB_mem {l : List St} (h : validB l = true) : ∀ s ∈ l, checkI s = 0 ∧ sealedB s = true := fun s hs => by
  obtain ⟨k, hk⟩ := List.mem_iff_getElem?.1 hs
  have := validB_goods h k (List.getElem?_eq_some_iff.1 hk).1
  rw [rightAt_eq hk, Bool.and_eq_true, Bool.and_eq_true] at this
  exact ⟨of_decide_eq_true this.1.1, this.1.2⟩
theorem validB_next {l : List St} (h : validB l = true) (j : Nat) (s t : St) (h1 : l[j]? = some s) (h2 : l[j + 1]? = some t) : ltA s t = true := by
  have := validB_goods h (j + 1) (List.getElem?_eq_some_iff.1 h2).1
  rw [rightAt_eq h2, Bool.and_eq_true, behindAt_succ h1] at this
  exact this.2
/-- Each statement of a valid store stands behind those ahead of it. -/
def RisingA (l : List St) : Prop := ∀ (i j : Nat) (s t : St), i < j → l[i]? = some s → l[j]? = some t → ltA s t = true
theorem rising_of {l : List St} (h : ∀ (j : Nat) (s t : St), l[j]? = some s → l[j + 1]? = some t → ltA s t = true) : RisingA l := by
  intro i j
  induction j with
  | zero => intro s t hij; omega
  | succ j ih =>
    intro s t hij hs ht
    by_cases e : i = j
    · subst e; exact h i s t hs ht
    · obtain ⟨u, hu⟩ : ∃ u, l[j]? = some u := ⟨_, List.getElem?_eq_getElem (by have := (List.getElem?_eq_some_iff.1 ht).1; omega)⟩
      exact ltA_trans (ih s u (by omega) hs hu) (h j u t hu ht)
theorem validB_rising {l : List St} (h : validB l = true) : RisingA l := rising_of (validB_next h)

set_option maxHeartbeats 4000000 in
set_option maxRecDepth 100000 in
theorem storeValid_any {P : Nat → Prop} (v : Value) (l : List St) (w : World) (hv : Sl stRep P w v l) (hm : l.length ≤ 9223372036854775807) (hL : LightL 9223372036854775807 l) :
    Calls Tryz.prog 81 #[.agg #[v]] w fun e w' => e = .returned (.bool (validB l)) ∧ Ex w.heap.size none w w' := by
  obtain ⟨ao, cap, rfl, hx⟩ := hv
  obtain ⟨w0, hw0⟩ : ∃ w0 : World, w0 = w.alloc (.cells #[.slice ao l.length cap] 29) := ⟨_, rfl⟩
  have hz0 : w0.heap.size = w.heap.size + 1 := by rw [hw0]; simp
  have HE0 : Hid (Ex w.heap.size none w w0) := Lib.hid (by rw [hw0]; exact Ex.new w _)
  have HC0 : Hid (∀ w', Ex w0.heap.size none w0 w' → w'.cell? ⟨w.heap.size, 0, none⟩ = some (.slice ao l.length cap)) := Lib.hid (fun w' h => by
    rw [cell_of_row _ _ _ _ _ _ ((h.block w.heap.size (by omega) (by simp)).trans (by rw [hw0]; exact heap_alloc_new w _))]; rfl)
  have HX : Hid (∀ w', Ex w.heap.size none w w' → SlAt stRep P w' ao l) := Lib.hid (fun w' h => hx.keep (by decide) fun b _ hb => h.block b hb (by simp))
  have HLL := Lib.hid hL
  have hc0 := HC0.out _ (Ex.refl _ _ w0)
  clear hx hL
  go_enter Tryz.func81, Tryz.ntmps81
  go_upto_region 1 with (fail)
  rw [← hw0]
  clear hw0
  by_cases hbig : 1000 < l.length
  · have hbI : (1000 : Int) < (l.length : Int) := by omega
    have HNO : Hid (validB l = false) := Lib.hid (by unfold validB; rw [Bool.and_eq_false_iff]; exact .inl (decide_eq_false (by omega)))
    go_wp2
    go_ret
    exact ⟨by rw [HNO.out]; rfl, HE0.out⟩
  have hbI : ¬ (1000 : Int) < (l.length : Int) := by omega
  go_wp2
  clear hc0
  go_loopw [12] (fun i wr => ∃ k : Nat, k ≤ l.length ∧ i = .int .i64 k ∧ Hid (Goods l k) ∧ Ex w0.heap.size none w0 wr) (fun i _ => l.length - (intOf i).toNat)
  case atStart => exact ⟨0, by omega, rfl, Lib.hid (fun j hj => by omega), Ex.refl _ _ _⟩
  case round =>
    obtain ⟨k, hk, rfl, HG, hex0⟩ := hrel
    have hsz0 := hex0.size
    have HE0W := Lib.hid hex0
    have HEX : Hid (Ex w.heap.size none w wr) := Lib.hid (HE0.out.trans hex0 (by omega) (by simp))
    have hsz : w.heap.size ≤ wr.heap.size := by omega
    clear hex0
    by_cases hlt : k < l.length
    · have hltI : (k : Int) < (l.length : Int) := by omega
      obtain ⟨b, off, x, hao, hPb, hbl, HXs, hls0, HLD⟩ := stv_get (HX.out wr HEX.out) k hlt
      have HAO := Lib.hid hao
      subst hao
      have HLG : Hid (x.1.list.length ≤ 9223372036854775807 ∧ x.1.pins.length ≤ 9223372036854775807) := Lib.hid (HLL.out x.1 (List.mem_of_getElem? HXs.out))
      have HLS0 := Lib.hid hls0
      have hld := HLD.out wr rfl
      have hnew := stV_new wr #[.int .i64 0, .int .i64 0, .string ⟨#[]⟩, .int .i64 0, .int .i64 0, .int .i64 0, .int .i64 0, .int .i64 0, .slice none 0 0, .slice none 0 0, .string ⟨#[]⟩, .int .i64 0, .string ⟨#[]⟩] x rfl
      clear hls0
      go_upto_region 6 with (fail)
      refine wp_world (fun W => W = wr.alloc (.cells (stV x).cells 37)) rfl (fun ws hws => ?_)
      have HEs : Hid (Ex wr.heap.size none wr ws) := Lib.hid (by rw [hws]; exact Ex.new wr _)
      have hzs : ws.heap.size = wr.heap.size + 1 := by rw [hws]; simp
      have HBs : Hid (ws.heap[wr.heap.size]? = some (.cells (stV x).cells 37 (0, 0))) := Lib.hid (by rw [hws]; exact heap_alloc_new wr _)
      have HQ : Hid (∀ w', Ex ws.heap.size none ws w' → (rowLoad 37 ⟨wr.heap.size, 0, none⟩).run Tryz.prog w' = .ok (stV x) w' ∧ w'.cell? ⟨w.heap.size, 0, none⟩ = some (.slice (some ⟨b, off, none⟩) l.length cap)) := Lib.hid (fun w' h => ⟨stV_box ((h.block wr.heap.size (by omega) (by simp)).trans HBs.out), HC0.out w' ((HE0W.out.trans HEs.out (by omega) (by simp)).trans h (by omega) (by simp))⟩)
      have HLS : Hid (∀ w', Ex ws.heap.size none ws w' → Lies P w' x) := Lib.hid (fun w' h => HLS0.out.keep fun b _ hb => (h.block b (by omega) (by simp)).trans (HEs.out.block b (by omega) (by simp)))
      obtain ⟨q, hq0⟩ : ∃ q, q = checkI x.1 := ⟨_, rfl⟩
      have HCQ : Hid (checkI x.1 = q) := Lib.hid hq0.symm
      have HCK : Hid (∀ w', Ex ws.heap.size none ws w' → Calls Tryz.prog 39 #[stV x] w' fun e w'' => e = .returned (.int .i64 q) ∧ Ex w'.heap.size none w' w'') := Lib.hid (fun w' h => by rw [hq0]; exact check_v x w' (HLS.out w' h) HLG.out)
      clear hq0 hld hnew
      clear hws
      obtain ⟨r1, r0⟩ := HQ.out _ (Ex.refl _ _ ws)
      by_cases t2 : q = 0
      case neg =>
        have k2 : (q == 0) = false := by simpa using t2
        have k2b : (q != 0) = true := by simpa using t2
        have HNO : Hid (rightAt l k = false) := Lib.hid (by rw [rightAt_eq HXs.out, HCQ.out]; simp [t2])
        clear t2
        have hq := fun p0 : ExW ws => HQ.out p0.w' p0.ex
        clear r1 r0
        refine wp_region_quiet_ex (by kernel_rfl) (by kernel_rfl) ?_
        repeat (go_big_quiet_step (first | (go_at_call 39; refine calls_ex_of (HCK.out _ (ExW.ex _)))))
        refine wpQuiet_nil ?_
        intro _ hw'
        obtain ⟨p9, hw''⟩ := hw'
        subst hw''
        have HE9 : Hid (Ex ws.heap.size none ws p9.w') := Lib.hid p9.ex
        clear hq
        go_wp2
        go_ret
        exact ⟨by rw [validB_no (k := k) hlt HNO.out]; rfl, HEX.out.trans (HEs.out.trans HE9.out (by omega) (by simp)) hsz (by simp)⟩
      have k2 : (q == 0) = true := by simpa using t2
      have k2b : (q != 0) = false := by simpa using t2
      have HT2 : Hid (checkI x.1 = 0) := Lib.hid (HCQ.out.trans t2)
      have HTM := Lib.hid (checkI_tame HT2.out)
      clear t2
      cases t3 : sealedB x.1 with
      | false =>
        have HNO : Hid (rightAt l k = false) := Lib.hid (by rw [rightAt_eq HXs.out, t3]; simp)
        have HSL : Hid (∀ w', Ex ws.heap.size none ws w' → Calls Tryz.prog 54 #[stV x] w' fun e w'' => e = .returned (.bool false) ∧ Ex w'.heap.size none w' w'') := Lib.hid (fun w' h => asB (sealed_v x w' (HLS.out w' h) HTM.out) t3)
        clear t3
        have hq := fun p0 : ExW ws => HQ.out p0.w' p0.ex
        clear r1 r0
        refine wp_region_quiet_ex (by kernel_rfl) (by kernel_rfl) ?_
        repeat (go_big_quiet_step (first | (go_at_call 39; refine calls_ex_of (HCK.out _ (ExW.ex _))) | (go_at_call 54; refine calls_ex_of (HSL.out _ (ExW.ex _)))))
        refine wpQuiet_nil ?_
        intro _ hw'
        obtain ⟨p9, hw''⟩ := hw'
        subst hw''
        have HE9 : Hid (Ex ws.heap.size none ws p9.w') := Lib.hid p9.ex
        clear hq
        go_wp2
        go_ret
        exact ⟨by rw [validB_no (k := k) hlt HNO.out]; rfl, HEX.out.trans (HEs.out.trans HE9.out (by omega) (by simp)) hsz (by simp)⟩
      | true =>
        have HSL : Hid (∀ w', Ex ws.heap.size none ws w' → Calls Tryz.prog 54 #[stV x] w' fun e w'' => e = .returned (.bool true) ∧ Ex w'.heap.size none w' w'') := Lib.hid (fun w' h => asB (sealed_v x w' (HLS.out w' h) HTM.out) t3)
        have HT3 := Lib.hid t3
        clear t3
        by_cases hk0 : 0 < k
        case neg =>
          have k3 : decide (0 < (k : Int)) = false := decide_eq_false (by omega)
          have k4 : decide (0 < k) = false := decide_eq_false (by omega)
          have HYES : Hid (rightAt l k = true) := Lib.hid (by
            obtain rfl : k = 0 := by omega
            rw [rightAt_eq HXs.out, HT3.out, HT2.out]; rfl)
          clear hk0
          have hq := fun p0 : ExW ws => HQ.out p0.w' p0.ex
          clear r1 r0
          refine wp_region_quiet_ex (by kernel_rfl) (by kernel_rfl) ?_
          repeat (go_big_quiet_step (first | (go_at_call 39; refine calls_ex_of (HCK.out _ (ExW.ex _))) | (go_at_call 54; refine calls_ex_of (HSL.out _ (ExW.ex _)))))
          refine wpQuiet_nil ?_
          intro _ hw'
          obtain ⟨p9, hw''⟩ := hw'
          subst hw''
          have HE9 : Hid (Ex ws.heap.size none ws p9.w') := Lib.hid p9.ex
          clear hq
          go_wp2
          go_roundw
          case rel => exact ⟨k + 1, by omega, by go_num, Lib.hid (goods_succ HG.out HYES.out), HE0W.out.trans (HEs.out.trans HE9.out (by omega) (by simp)) hsz0 (by simp)⟩
          case measure => simp [intOf] <;> omega
        have k3 : decide (0 < (k : Int)) = true := decide_eq_true (by omega)
        have k4 : decide (0 < k) = true := decide_eq_true (by omega)
        obtain ⟨m, rfl⟩ : ∃ m, k = m + 1 := ⟨k - 1, by omega⟩
        obtain ⟨b', off', y, hao', _, _, HYs, _, HLDy⟩ := stv_get (HX.out wr HEX.out) m (by omega)
        cases hao'
        have HLY : Hid (∀ w', Ex ws.heap.size none ws w' → (rowLoad 37 ⟨b, off + m * 13, none⟩).run Tryz.prog w' = .ok (stV y) w') := Lib.hid (fun w' h => HLDy.out w' ((h.block b (by omega) (by simp)).trans (HEs.out.block b (by omega) (by simp))))
        have HQ' : Hid (∀ w', Ex ws.heap.size none ws w' → (rowLoad 37 ⟨wr.heap.size, 0, none⟩).run Tryz.prog w' = .ok (stV x) w' ∧ (w'.cell? ⟨w.heap.size, 0, none⟩ = some (.slice (some ⟨b, off, none⟩) l.length cap) ∧ (rowLoad 37 ⟨b, off + m * 13, none⟩).run Tryz.prog w' = .ok (stV y) w')) := Lib.hid (fun w' h => ⟨(HQ.out w' h).1, (HQ.out w' h).2, HLY.out w' h⟩)
        clear HQ r1 r0
        have HQ := HQ'
        obtain ⟨r1, r0⟩ := HQ.out _ (Ex.refl _ _ ws)
        obtain ⟨z, hz⟩ : ∃ z, z = cmpA y.1 x.1 := ⟨_, rfl⟩
        have HCM : Hid (∀ w', Calls Tryz.prog 120 #[stV y, stV x] w' fun e w'' => e = .returned (.int .i64 z) ∧ Ex w'.heap.size none w' w'') := Lib.hid (fun w' => by rw [hz]; exact shelfCmp_v y x w')
        have i1 : ((m + 1 : Nat) : Int) - 1 = (m : Int) := by omega
        have i2 : (m : Int) < (l.length : Int) := by omega
        have HZ := Lib.hid hz
        clear hz
        by_cases t4 : z < 0
        case neg =>
          have k5 : decide (0 ≤ z) = true := decide_eq_true (by omega)
          have HNO : Hid (rightAt l (m + 1) = false) := Lib.hid (by
            rw [rightAt_eq HXs.out, behindAt_succ HYs.out]
            have := ltA_of y.1 x.1
            rw [← HZ.out, decide_eq_false t4] at this
            rw [← this, Bool.and_false])
          clear t4
          have hq := fun p0 : ExW ws => HQ.out p0.w' p0.ex
          clear r1 r0
          refine wp_region_quiet_ex (by kernel_rfl) (by kernel_rfl) ?_
          repeat (go_big_quiet_step (first | (go_at_call 39; refine calls_ex_of (HCK.out _ (ExW.ex _))) | (go_at_call 54; refine calls_ex_of (HSL.out _ (ExW.ex _))) | (go_at_call 120; refine calls_ex_of (HCM.out _))))
          refine wpQuiet_nil ?_
          intro _ hw'
          obtain ⟨p9, hw''⟩ := hw'
          subst hw''
          have HE9 : Hid (Ex ws.heap.size none ws p9.w') := Lib.hid p9.ex
          clear hq
          go_wp2
          go_ret
          exact ⟨by rw [validB_no (k := m + 1) hlt HNO.out]; rfl, HEX.out.trans (HEs.out.trans HE9.out (by omega) (by simp)) hsz (by simp)⟩
        have k5 : decide (0 ≤ z) = false := decide_eq_false (by omega)
        have HYES : Hid (rightAt l (m + 1) = true) := Lib.hid (by
          rw [rightAt_eq HXs.out, HT3.out, HT2.out, behindAt_succ HYs.out]
          have := ltA_of y.1 x.1
          rw [← HZ.out, decide_eq_true t4] at this
          rw [← this]; rfl)
        clear t4
        have hq := fun p0 : ExW ws => HQ.out p0.w' p0.ex
        clear r1 r0
        refine wp_region_quiet_ex (by kernel_rfl) (by kernel_rfl) ?_
        repeat (go_big_quiet_step (first | (go_at_call 39; refine calls_ex_of (HCK.out _ (ExW.ex _))) | (go_at_call 54; refine calls_ex_of (HSL.out _ (ExW.ex _))) | (go_at_call 120; refine calls_ex_of (HCM.out _))))
        refine wpQuiet_nil ?_
        intro _ hw'
        obtain ⟨p9, hw''⟩ := hw'
        subst hw''
        have HE9 : Hid (Ex ws.heap.size none ws p9.w') := Lib.hid p9.ex
        clear hq
        go_wp2
        go_roundw
        case rel => exact ⟨m + 1 + 1, by omega, by go_num, Lib.hid (goods_succ HG.out HYES.out), HE0W.out.trans (HEs.out.trans HE9.out (by omega) (by simp)) hsz0 (by simp)⟩
        case measure => simp [intOf] <;> omega
    · obtain rfl : k = l.length := by omega
      have HYES : Hid (validB l = true) := Lib.hid (validB_yes (by omega) HG.out)
      go_wp2
      go_ret
      exact ⟨by rw [HYES.out]; rfl, HEX.out⟩
end Go.Proofs.YtaakacahblndcaaGreat

namespace Go.Proofs.YtaakacahblndcaaGreat
open Go.RowKit Go.Sort

theorem run_appOne {P : Program} {w : World} (t ty : TypeId) (ht : P.underlying t = some (.slice 37))
    (hinfo : (P.info? 37).map (fun i => (i.zero, i.size, i.bytes)) = some (some (.agg #[.int .i64 0, .int .i64 0, .string ⟨#[]⟩, .int .i64 0, .int .i64 0, .int .i64 0, .int .i64 0, .int .i64 0, .slice none 0 0, .slice none 0 0, .string ⟨#[]⟩, .int .i64 0, .string ⟨#[]⟩]), 13, 160))
    (rb base : Nat) (ao : Option Addr) (cap n : Nat) (l : List St) (hn : l.length = n) (g : Nat) (y : St × Sv × Sv)
    (hown : OwnT w rb base ao cap l) (hc : ∀ (j : Nat) (v : Value), (stE y)[j]? = some v → w.cell? ⟨g, j, none⟩ = some v) (hx : Lies (fun b => base ≤ b ∧ rowOf ao ≠ some b) w y) (hlen : n + 1 ≤ 10000000) (hbase : rb ≤ w.heap.size) :
    ∃ ao' cap' w', (Builtin.append_ #[t, t] ty #[.slice ao n cap, .slice (some ⟨g, 0, none⟩) 1 1]).run P w = .ok (.slice ao' (n + 1) cap') w' ∧ OwnT w' rb base ao' cap' (l ++ [y.1]) ∧ Ex rb none w w' ∧ ∀ b, b < w.heap.size → rowOf ao ≠ some b → w'.heap[b]? = w.heap[b]? := by
  subst hn
  obtain ⟨i0, hi, hz0, hz1, hz2⟩ := info_parts hinfo
  obtain ⟨xs, rfl, h1, h2⟩ := hown
  have e1 : (xs.map (·.1)).length = xs.length := by simp
  rw [e1] at hlen ⊢
  have hc' : ∀ (j : Nat) (v : Value), (flatL stE [y])[j]? = some v → w.cell? ((⟨g, 0, none⟩ : Addr).add j) = some v := fun j v hj => by
    have h3 : (stE y)[j]? = some v := by simpa [flatL] using hj
    rw [Addr.add_lit, Nat.zero_add]; exact hc j v h3
  obtain ⟨v', w', hr, ho', hg, _, hnew⟩ := run_append_own_at (P := P) w rb t ty 37 i0 _ 13 160 ht hi hz0 hz1 hz2 rfl (by decide) _ _ _ h1 ⟨g, 0, none⟩ 1 1 (flatL stE [y]) (flatL_len stE_len [y]) hc' (flatL_one one_stE [y]) (by simp only [maxLen]; omega) (by omega) hbase
  obtain ⟨ao', cap', rfl⟩ := own_shape ho'
  have hrow : (Value.slice ao xs.length cap).ownBlock = rowOf ao := by cases ao <;> rfl
  have hrow' : (Value.slice ao' (xs.length + 1) cap').ownBlock = rowOf ao' := by cases ao' <;> rfl
  rw [hrow] at hg hnew
  rw [hrow'] at hnew
  have hkeep : ∀ y, Lies (fun b => base ≤ b ∧ rowOf ao ≠ some b) w y → Lies (fun b => base ≤ b ∧ rowOf ao' ≠ some b) w' y := fun y hy => by
    refine Lies.mono (P := fun b => (base ≤ b ∧ rowOf ao ≠ some b) ∧ b < w.heap.size) (Lies.keep (w := w) (hy.mono fun b hb hlt => ⟨hb, hlt⟩) fun b hb hlt => hg.block b hlt (fun e => hb.1.2 e.symm)) (fun b hb _ => ⟨hb.1.1, fun e => ?_⟩)
    rcases hb with ⟨⟨_, hb1⟩, hb2⟩
    rcases hnew with h0 | h0
    · exact hb1 (h0 ▸ e)
    · rw [e] at h0; cases h0; omega
  refine ⟨ao', cap', w', hr, ⟨xs ++ [y], by simp, ?_, fun z hz => ?_⟩, ?_⟩
  · unfold OwnE
    have e2 : flatL stE (xs ++ [y]) = flatL stE xs ++ flatL stE [y] := by simp [flatL]
    rw [e2, List.length_append]; exact ho'
  · simp only [List.mem_append, List.mem_singleton] at hz
    rcases hz with hz | rfl
    · exact hkeep z (h2 z hz)
    · exact hkeep z hx
  · refine ⟨⟨hg.os, hg.tape, hg.output, hg.size, fun k hk _ => hg.block k (by omega) (fun e => ?_)⟩, fun b hb hne => hg.block b hb (fun e => hne e.symm)⟩
    cases ao with
    | none => cases e
    | some ad =>
      have := (h1.lt ad rfl).1
      simp [rowOf] at e
      omega
/-- A block of another kind is not the row. -/
theorem OwnS.other {w : World} {base : Nat} {ao : Option Addr} {cap : Nat} {l : List St} (h : OwnS w base ao cap l) {b : Nat} {cs : Array Value} {t : TypeId} {fr : Nat × Nat} (hb : w.heap[b]? = some (.cells cs t fr)) (ht : t ≠ 37) : rowOf ao ≠ some b := by
  obtain ⟨xs, _, h1, _⟩ := h
  rcases h1.2 with ⟨e, _⟩ | ⟨g, cap', cur, e, hg, hh, _⟩
  · injection e with e1
    subst e1
    intro h; cases h
  · injection e with e1
    subst e1
    intro h
    simp only [rowOf, Option.map_some, Option.some.injEq] at h
    subst h
    rw [hh] at hb
    simp only [Option.some.injEq, Obj.cells.injEq] at hb
    exact ht hb.2.1.symm
/-- append in one word: the walk looks up its run. -/
def appR (ats : Array TypeId) (ty : TypeId) (args : Array Value) : Sem Value := Builtin.append_ ats ty args
theorem builtin_appR (ats : Array TypeId) (ty : TypeId) (cs : Array Bool) (args : Array Value) : builtin .append ats ty cs args = (do pure (.value (← appR ats ty args))) := rfl
theorem run_appSt {w : World} (rb base : Nat) (ao : Option Addr) (cap n : Nat) (l : List St) (hn : l.length = n) (g : Nat) (y : St × Sv × Sv) (hown : OwnT w rb base ao cap l)
    (hc : w.heap[g]? = some (.cells (stV y).cells 37 (0, 0))) (hx : Lies (fun b => base ≤ b ∧ rowOf ao ≠ some b) w y) (hlen : n + 1 ≤ 10000000) (hbase : rb ≤ w.heap.size) :
    ∃ ao' cap' w', (appR #[27, 27] 27 #[.slice ao n cap, .slice (some ⟨g, 0, none⟩) 1 1]).run Tryz.prog w = .ok (.slice ao' (n + 1) cap') w' ∧ OwnT w' rb base ao' cap' (l ++ [y.1]) ∧ Ex rb none w w' ∧ ∀ b, b < w.heap.size → rowOf ao ≠ some b → w'.heap[b]? = w.heap[b]? :=
  run_appOne _ _ Tryz.underlying27 Tryz.infoSt rb base ao cap n l hn g y hown (fun j v hj => by rw [cell_of_row _ _ _ _ _ _ hc, stV_cells]; simpa using hj) hx hlen hbase
end Go.Proofs.YtaakacahblndcaaGreat

namespace Go.Proofs.YtaakacahblndcaaGreat
open Go.RowKit Go.Sort
attribute [local go_sem ↓] rowLoad_stv rowStore_stv

def LoA (l : List St) (x : St) (i : Nat) : Prop := ∀ (t : Nat) (y : St), t < i → l[t]? = some y → ltA y x = true
def HiA (l : List St) (x : St) (j : Nat) : Prop := ∀ (t : Nat) (y : St), j ≤ t → l[t]? = some y → ltA y x = false
/-- What the search answers: so many stand ahead of it, and whether the next one is its equal. -/
def SearchR (l : List St) (x : St) (k : Nat) (b : Bool) : Prop := k ≤ l.length ∧ LoA l x k ∧ HiA l x k ∧ (b = true ↔ ∃ y, l[k]? = some y ∧ cmpA y x = 0)

set_option maxHeartbeats 4000000 in
set_option maxRecDepth 100000 in
theorem stSearch_any {P : Nat → Prop} {v : Value} {l : List St} (x : St × Sv × Sv) (w : World) (hv : Sl stRep P w v l) (hm : l.length ≤ 1000000) (hsort : RisingA l) :
    Calls Tryz.prog 121 #[v, stV x, .func (.func 120) #[] #[]] w fun e w' => ∃ (k : Nat) (b : Bool), e = .returned (.tuple #[.int .i64 k, .bool b]) ∧ SearchR l x.1 k b ∧ Ex w.heap.size none w w' := by
  obtain ⟨ao, cap, rfl, hx⟩ := hv
  obtain ⟨w0, hw0⟩ : ∃ w0 : World, w0 = w.alloc (.cells (stV x).cells 37) := ⟨_, rfl⟩
  have hz0 : w0.heap.size = w.heap.size + 1 := by rw [hw0]; simp
  have HE0 : Hid (Ex w.heap.size none w w0) := Lib.hid (by rw [hw0]; exact Ex.new w _)
  have HT : Hid (∀ w', Ex w0.heap.size none w0 w' → (rowLoad 37 ⟨w.heap.size, 0, none⟩).run Tryz.prog w' = .ok (stV x) w') := Lib.hid (fun w' h => stV_box ((h.block w.heap.size (by omega) (by simp)).trans (by rw [hw0]; exact heap_alloc_new w _)))
  have HX : Hid (∀ w', Ex w0.heap.size none w0 w' → SlAt stRep P w' ao l) := Lib.hid (fun w' h => hx.keep (by decide) fun b _ hb => (h.block b (by omega) (by simp)).trans (HE0.out.block b hb (by simp)))
  have HS := Lib.hid hsort
  clear hx hsort
  go_enter Tryz.func121, Tryz.ntmps121
  go_upto_region 1 with (fail)
  refine wp_world (fun W => W = w0) (by rw [hw0]; rfl) (fun W hW => ?_)
  rw [hW]
  clear hW W hw0
  go_wp2
  go_loopw [9, 10] (fun a b wr => ∃ i j : Nat, i ≤ j ∧ j ≤ l.length ∧ a = .int .i64 i ∧ b = .int .i64 j ∧ Hid (LoA l x.1 i) ∧ Hid (HiA l x.1 j) ∧ Ex w0.heap.size none w0 wr) (fun a b _ => (intOf b - intOf a).toNat)
  case atStart => exact ⟨0, l.length, by omega, by omega, rfl, rfl, Lib.hid (fun t y ht => absurd ht (Nat.not_lt_zero _)), Lib.hid (fun t y ht h => by rw [List.getElem?_eq_none ht] at h; cases h), Ex.refl _ _ _⟩
  case round =>
    obtain ⟨i, j, hij, hj, rfl, rfl, hl, hr, hex⟩ := hrel
    have hsz := hex.size
    have HEX := Lib.hid hex
    have ht := HT.out wr hex
    clear hex
    by_cases hlt : (i : Int) < j
    · obtain ⟨h, hh⟩ : ∃ h, h = (i + j) / 2 := ⟨_, rfl⟩
      have h1 : i ≤ h := by omega
      have h2 : h < j := by omega
      have e1 : ((i : Int) + j) / 2 = (h : Int) := by omega
      obtain ⟨b, off, y, rfl, _, hbl, HY, _, HLD⟩ := stv_get (HX.out wr HEX.out) h (by omega)
      have hld := HLD.out wr rfl
      clear hh
      obtain ⟨z, hz⟩ : ∃ z, z = cmpA y.1 x.1 := ⟨_, rfl⟩
      have HCM : Hid (∀ w', Calls Tryz.prog 120 #[stV y, stV x] w' fun e w'' => e = .returned (.int .i64 z) ∧ Ex w'.heap.size none w' w'') := Lib.hid (fun w' => by rw [hz]; exact shelfCmp_v y x w')
      have HZ := Lib.hid hz
      clear hz
      by_cases hc : z < 0
      · have d1 : decide (z < 0) = true := decide_eq_true hc
        have HK : Hid (LoA l x.1 (h + 1)) := Lib.hid (fun t u ht hu => by
          have hyx : ltA y.1 x.1 = true := by rw [← ltA_of, ← HZ.out]; exact d1
          by_cases e : t = h
          · subst e; have := HY.out; rw [this] at hu; cases hu; exact hyx
          · exact ltA_trans (HS.out t h u y.1 (by omega) hu HY.out) hyx)
        clear hc
        have hq := fun p0 : ExW wr => And.intro (HT.out p0.w' (HEX.out.trans p0.ex hsz (by simp))) (HLD.out p0.w' (p0.ex.block b hbl (by simp)))
        clear ht hld
        go_wp2_with fail
        refine wp_region_quiet_ex (by kernel_rfl) (by kernel_rfl) ?_
        repeat (go_big_quiet_step ((go_at_call 120; refine calls_ex_of (HCM.out _))))
        refine wpQuiet_nil ?_
        intro _ hw'
        obtain ⟨p9, hw''⟩ := hw'
        subst hw''
        have HE1 : Hid (Ex wr.heap.size none wr p9.w') := Lib.hid p9.ex
        clear hq
        go_wp2_with fail
        go_roundw
        case rel => exact ⟨h + 1, j, by omega, hj, by go_num, rfl, HK, hr, HEX.out.trans HE1.out hsz (by simp)⟩
        case measure => simp [intOf] <;> omega
      · have d1 : decide (z < 0) = false := decide_eq_false hc
        have HK : Hid (HiA l x.1 h) := Lib.hid (fun t u ht hu => by
          have hyx : ltA y.1 x.1 = false := by rw [← ltA_of, ← HZ.out]; exact d1
          by_cases e : t = h
          · subst e; have := HY.out; rw [this] at hu; cases hu; exact hyx
          · cases hux : ltA u x.1 with
            | false => rfl
            | true => rw [ltA_trans (HS.out h t y.1 u (by omega) HY.out hu) hux] at hyx; cases hyx)
        clear hc
        have hq := fun p0 : ExW wr => And.intro (HT.out p0.w' (HEX.out.trans p0.ex hsz (by simp))) (HLD.out p0.w' (p0.ex.block b hbl (by simp)))
        clear ht hld
        go_wp2_with fail
        refine wp_region_quiet_ex (by kernel_rfl) (by kernel_rfl) ?_
        repeat (go_big_quiet_step ((go_at_call 120; refine calls_ex_of (HCM.out _))))
        refine wpQuiet_nil ?_
        intro _ hw'
        obtain ⟨p9, hw''⟩ := hw'
        subst hw''
        have HE1 : Hid (Ex wr.heap.size none wr p9.w') := Lib.hid p9.ex
        clear hq
        go_wp2_with fail
        go_roundw
        case rel => exact ⟨i, h, by omega, by omega, rfl, rfl, hl, HK, HEX.out.trans HE1.out hsz (by simp)⟩
        case measure => simp [intOf] <;> omega
    · obtain rfl : i = j := by omega
      by_cases hn : i < l.length
      · have d1 : decide ((i : Int) < l.length) = true := decide_eq_true (by omega)
        obtain ⟨b, off, y, rfl, _, hbl, HY, _, HLD⟩ := stv_get (HX.out wr HEX.out) i hn
        have hld := HLD.out wr rfl
        obtain ⟨z, hz⟩ : ∃ z, z = cmpA y.1 x.1 := ⟨_, rfl⟩
        have HCM : Hid (∀ w', Calls Tryz.prog 120 #[stV y, stV x] w' fun e w'' => e = .returned (.int .i64 z) ∧ Ex w'.heap.size none w' w'') := Lib.hid (fun w' => by rw [hz]; exact shelfCmp_v y x w')
        have HZ := Lib.hid hz
        clear hz
        have hq := fun p0 : ExW wr => And.intro (HT.out p0.w' (HEX.out.trans p0.ex hsz (by simp))) (HLD.out p0.w' (p0.ex.block b hbl (by simp)))
        clear ht hld
        go_wp2_with fail
        refine wp_region_quiet_ex (by kernel_rfl) (by kernel_rfl) ?_
        repeat (go_big_quiet_step ((go_at_call 120; refine calls_ex_of (HCM.out _))))
        refine wpQuiet_nil ?_
        intro _ hw'
        obtain ⟨p9, hw''⟩ := hw'
        subst hw''
        have HE1 : Hid (Ex wr.heap.size none wr p9.w') := Lib.hid p9.ex
        clear hq
        go_wp2_with fail
        go_ret2
        refine ⟨i, _, rfl, ⟨hj, hl.out, hr.out, ?_⟩, (HE0.out.trans HEX.out (by omega) (by simp)).trans HE1.out (by omega) (by simp)⟩
        constructor
        · intro h
          exact ⟨y.1, HY.out, by rw [← HZ.out]; simpa using h⟩
        · rintro ⟨u, hu, h⟩
          rw [HY.out] at hu
          cases hu
          rw [← HZ.out] at h
          simpa using h
      · have d1 : decide ((i : Int) < l.length) = false := decide_eq_false (by omega)
        have hq := fun p0 : ExW wr => HT.out p0.w' (HEX.out.trans p0.ex hsz (by simp))
        clear ht
        go_wp2_with fail
        refine wp_region_quiet_ex (by kernel_rfl) (by kernel_rfl) ?_
        repeat (go_big_quiet_step (fail))
        refine wpQuiet_nil ?_
        intro _ hw'
        obtain ⟨p9, hw''⟩ := hw'
        subst hw''
        have HE1 : Hid (Ex wr.heap.size none wr p9.w') := Lib.hid p9.ex
        clear hq
        go_wp2_with fail
        go_ret2
        refine ⟨i, _, rfl, ⟨hj, hl.out, hr.out, ?_⟩, (HE0.out.trans HEX.out (by omega) (by simp)).trans HE1.out (by omega) (by simp)⟩
        constructor
        · intro h; cases h
        · rintro ⟨u, hu, h⟩
          exact absurd (List.getElem?_eq_some_iff.1 hu).1 (by omega)
end Go.Proofs.YtaakacahblndcaaGreat

namespace Go.Proofs.YtaakacahblndcaaGreat
open Go.RowKit Go.Sort Go.Lib

section
variable {P : Program}
/-- copy, at elements of so many cells: all is read before anything is written. -/
theorem run_copy_k (w : World) (dT sT ty elem : TypeId) (k : Nat) (b o dLen dCap : Nat) (a : Addr) (sLen sCap : Nat) (cs : List Value)
    (hu : P.underlying dT = some (.slice elem)) (hs : (P.info? elem).map (·.size) = some k) (hn : cs.length = Nat.min sLen dLen * k)
    (hsrc : ∀ j v, cs[j]? = some v → w.cell? (a.add j) = some v) (hc : ∀ j, j < cs.length → (w.cell? ⟨b, o + j, none⟩).isSome = true) (hf : ∀ j, j < cs.length → w.frozen? ⟨b, o + j, none⟩ = false) (h1 : ∀ v ∈ cs, v.oneCell' = true) :
    (Builtin.copy_ #[dT, sT] ty #[.slice (some ⟨b, o, none⟩) dLen dCap, .slice (some a) sLen sCap]).run P w = .ok (goInt (Nat.min sLen dLen)) (w.setCells b o cs) := by
  have hl := run_loadCells_list (P := P) w a cs hsrc
  have hst := run_storeCells_cells (P := P) b o cs 0 w (by simpa using hc) (by simpa using hf) h1
  cases hq : P.info? elem with
  | none => simp [hq] at hs
  | some i =>
    have hi : i.size = k := by simpa [hq] using hs
    have hl' : (loadCells a (Nat.min sLen dLen * k)).run P w = .ok cs.toArray w := by rw [← hn]; exact hl
    simp [Builtin.copy_, run_underlying hu, Builtin.lenOf, Builtin.firstCells, sizeOf, typeInfo, hq, hi, hl', hst]
theorem wp_copyR (w : World) {o : Oper} {a : Act} {K : Act → World → Prop} {Q : Exit → Act → World → Prop} (d s : Operand) (t t' : TypeId)
    (ho : o.op = .call { callee := .builtin .copy, args := #[d, s], argTypes := #[t, t'] }) (v u : Value) (hd : a.eval d = v) (hs : a.eval s = u) {v' : Value} {w' : World}
    (hr : (Builtin.copy_ #[t, t'] o.type #[v, u]).run P w = .ok v' w') (h : K (a.put o.dst v') w') : o.wp P a w K Q := by
  unfold Oper.wp execOp
  simp only [ho, resolve, invoke, builtin, Sem.run_bind, Sem.run_pure, Result.andThen_ok, List.map_toArray, List.map_cons, List.map_nil, hd, hs, hr]
  exact h
theorem step_copyR {ops : Array Oper} {o : Oper} {a : Act} {w : World} {K : Act → World → Prop} {Q : Exit → Act → World → Prop} {E : Prop}
    (hg : o.guard = none) (d x : Operand) (dT sT : TypeId) (hop : o.op = Op.call { callee := Callee.builtin Builtin.copy, args := #[d, x], argTypes := #[dT, sT] })
    (v u : Value) (hd : a.eval d = v) (hx : a.eval x = u) {v' : Value} {w' : World} (hr : (Builtin.copy_ #[dT, sT] o.type #[v, u]).run P w = .ok v' w') (hK : K (a.put o.dst v') w') :
    if Region.wanted o (yielded ops a.tmps) = true then Oper.wp P o a w K Q else E := by
  have hw : Region.wanted o (yielded ops a.tmps) = true := by simp [Region.wanted, hg]
  rw [if_pos hw]
  exact wp_copyR w d x dT sT hop v u hd hx hr hK
theorem isSome_setC (b : Nat) (vs : List Value) (o : Nat) (w : World) (h : ∀ j, j < vs.length → (w.cell? ⟨b, o + j, none⟩).isSome = true) (k : Nat) (hk : (w.cell? ⟨b, k, none⟩).isSome = true) : ((w.setCells b o vs).cell? ⟨b, k, none⟩).isSome = true := by
  by_cases hin : o ≤ k ∧ k < o + vs.length
  · have := World.cell?_setCells_in b vs o w h (k - o) (by omega)
    rw [show o + (k - o) = k by omega] at this
    rw [this]; rfl
  · rw [World.cell?_setCells_out b vs o w ⟨b, k, none⟩ (fun _ _ => by show k < o ∨ o + vs.length ≤ k; omega)]
    exact hk
end

set_option maxHeartbeats 8000000 in
set_option maxRecDepth 100000 in
/-- There is room, and the place is not the end: in place. -/
theorem insertSt_shift (b off n c i vb voff m vc : Nat) (cs vs : List Value) (w : World) (hi : i < n) (hm : 0 < m) (hroom : n + m ≤ c) (hc63 : c ≤ 9223372036854775807) (hvb : vb ≠ b)
    (hcl : cs.length = n * 13) (hvl : vs.length = m * 13)
    (hcs : ∀ j v, cs[j]? = some v → w.cell? ⟨b, off + j, none⟩ = some v) (hsp : ∀ j, j < (n + m) * 13 → (w.cell? ⟨b, off + j, none⟩).isSome = true) (hfz : ∀ j, j < (n + m) * 13 → w.frozen? ⟨b, off + j, none⟩ = false)
    (hvs : ∀ j v, vs[j]? = some v → w.cell? ⟨vb, voff + j, none⟩ = some v) (h1c : ∀ v ∈ cs, v.oneCell' = true) (h1v : ∀ v ∈ vs, v.oneCell' = true)
    (tA tB : TypeId) (kA kB : Nat) (hsa : w.shape? vb = some (tA, kA)) (hsb : w.shape? b = some (tB, kB)) (hkB : kB ≠ 0) (hfa : w.frozen? ⟨vb, voff, none⟩ = false) (hfe : w.frozen? ⟨vb, kA, none⟩ = false) :
    Calls Tryz.prog 122 #[.slice (some ⟨b, off, none⟩) n c, .int .i64 i, .slice (some ⟨vb, voff, none⟩) m vc] w fun e w' =>
      e = .returned (.slice (some ⟨b, off, none⟩) (n + m) c) ∧ w' = (w.drew.setCells b (off + (i + m) * 13) (cs.drop (i * 13))).setCells b (off + i * 13) vs := by
  have mixed : Tryz.prog.follows Departure.mixedOrders = true := by kernel_rfl
  have hz1 : ¬ ((m : Int) = 0) := by omega
  have hz2 : ¬ ((i : Int) = (n : Int)) := by omega
  have hsz : (Tryz.prog.info? 37).map (·.size) = some 13 := Tryz.sizeStv
  have hov : ∀ lb cb, (callFunc 172 #[.slice (some ⟨vb, voff, none⟩) m vc, .slice (some ⟨b, off + (i + m) * 13, none⟩) lb cb]).run Tryz.prog w = .ok (.value (.bool false)) w := fun lb cb => by
    rw [run_callFunc_extern Tryz.func172 (by kernel_rfl) (by kernel_rfl) (by kernel_rfl) (e := Extern.SlicesOverlaps.overlaps #[27, 27] #[4]) (by kernel_rfl),
      Lib.run_overlaps_apart w 27 4 37 Tryz.underlying27 13 Tryz.sizeOf37 ⟨vb, voff, none⟩ ⟨b, off + (i + m) * 13, none⟩ m vc lb cb hvb tA tB kA kB hsa hsb hkB hfa hfe]
    rfl
  have hdl : (cs.drop (i * 13)).length = (n - i) * 13 := by rw [List.length_drop, hcl]; omega
  have hw1 : IntKind.i64.wrap ((i : Int) + (m : Int)) = (i : Int) + (m : Int) := by rw [IntKind.wrap_i64]; omega
  have hb1 : (0 : Int) ≤ (i : Int) + (m : Int) := by omega
  have hin : i ≤ n := by omega
  have htn : ((i : Int) + (m : Int)).toNat = i + m := by omega
  have hb2 : ¬ (c = i + m) := by omega
  have hb3 : (i : Int) ≤ (n : Int) + (m : Int) := by omega
  have hb4 : ¬ (c = i) := by omega
  have hcp1 : ∀ ty dc sc, (Builtin.copy_ #[27, 27] ty #[.slice (some ⟨b, off + (i + m) * 13, none⟩) (n + m - (i + m)) dc, .slice (some ⟨b, off + i * 13, none⟩) (n + m - i) sc]).run Tryz.prog w.drew = .ok (goInt (Nat.min (n + m - i) (n + m - (i + m)))) (w.drew.setCells b (off + (i + m) * 13) (cs.drop (i * 13))) := fun ty dc sc =>
    run_copy_k w.drew _ _ ty 37 13 b (off + (i + m) * 13) (n + m - (i + m)) dc ⟨b, off + i * 13, none⟩ (n + m - i) sc (cs.drop (i * 13)) Tryz.underlying27 hsz (by rw [hdl, show Nat.min (n + m - i) (n + m - (i + m)) = n - i by simp only [Nat.min_def]; split <;> omega])
      (fun j v hj => by rw [Addr.add_lit, Nat.add_assoc]; exact hcs (i * 13 + j) v (by rwa [List.getElem?_drop] at hj))
      (fun j hj => by rw [Nat.add_assoc]; exact hsp _ (by omega)) (fun j hj => by rw [Nat.add_assoc]; exact hfz _ (by omega)) (fun v hv => h1c v (List.mem_of_mem_drop hv))
  obtain ⟨W1, hW1⟩ : ∃ W1, W1 = w.drew.setCells b (off + (i + m) * 13) (cs.drop (i * 13)) := ⟨_, rfl⟩
  have hsp1 : ∀ k, k < (n + m) * 13 → (W1.cell? ⟨b, off + k, none⟩).isSome = true := fun k hk => by
    rw [hW1]
    exact isSome_setC b _ _ _ (fun j hj => by rw [Nat.add_assoc]; exact hsp _ (by omega)) _ (hsp k hk)
  have hcp2 : ∀ (W : World), (∀ x, W.cell? x = W1.cell? x) → (∀ x, W.frozen? x = W1.frozen? x) → ∀ ty dc, (Builtin.copy_ #[27, 27] ty #[.slice (some ⟨b, off + i * 13, none⟩) (n + m - i) dc, .slice (some ⟨vb, voff, none⟩) m vc]).run Tryz.prog W = .ok (goInt (Nat.min m (n + m - i))) (W.setCells b (off + i * 13) vs) := fun W hWc hWf ty dc =>
    run_copy_k W _ _ ty 37 13 b (off + i * 13) (n + m - i) dc ⟨vb, voff, none⟩ m vc vs Tryz.underlying27 hsz (by rw [hvl, show Nat.min m (n + m - i) = m by simp only [Nat.min_def]; split <;> omega])
      (fun j v hj => by
        rw [Addr.add_lit, hWc, hW1, World.cell?_setCells_out b _ _ _ _ (fun h _ => absurd h hvb)]
        exact hvs j v hj)
      (fun j hj => by rw [hWc, Nat.add_assoc]; exact hsp1 _ (by omega)) (fun j hj => by rw [hWf, hW1, World.frozen?_setCells, Nat.add_assoc]; exact hfz _ (by omega)) h1v
  rw [← hW1] at hcp1
  clear hsp hfz hcs hvs h1c h1v hcl hvl hdl hsa hsb hfa hfe hsp1
  go_enter Tryz.func122, Tryz.ntmps122
  go_wp2_with (simp only [hov])
  go_region_law_o (refine step_copyR rfl _ _ 27 27 rfl _ _ (by simp [Act.eval, Act.put]) (by simp [Act.eval, Act.put]) (hcp1 _ _ _) ?_)
  go_wp2_with (at_builtin; refine wpList_copyR _ rfl _ _ 27 27 rfl _ _ rfl rfl (hcp2 _ (fun _ => rfl) (fun _ => rfl) _ _) ?_)
  go_ret
  first | exact ⟨rfl, rfl⟩ | exact ⟨rfl, by rw [hW1]⟩

set_option maxHeartbeats 8000000 in
set_option maxRecDepth 100000 in
/-- No room, and the place is not the end: a new row. -/
theorem insertSt_grow (b off n c i vb voff m vc : Nat) (cs vs : List Value) (w : World) (hi : i < n) (hm : 0 < m) (hnc : n ≤ c) (hroom : c < n + m) (hbig : (n + m) * 160 ≤ 140737488355328)
    (hcl : cs.length = n * 13) (hvl : vs.length = m * 13)
    (hcs : ∀ j v, cs[j]? = some v → w.cell? ⟨b, off + j, none⟩ = some v)
    (hvs : ∀ j v, vs[j]? = some v → w.cell? ⟨vb, voff + j, none⟩ = some v) (h1c : ∀ v ∈ cs, v.oneCell' = true) (h1v : ∀ v ∈ vs, v.oneCell' = true) :
    Calls Tryz.prog 122 #[.slice (some ⟨b, off, none⟩) n c, .int .i64 i, .slice (some ⟨vb, voff, none⟩) m vc] w fun e w' =>
      ∃ (ROW : Array Value) (G : Nat), e = .returned (.slice (some ⟨w.heap.size, 0, none⟩) (n + m) G) ∧ n + m ≤ G ∧ G ≤ maxLen ∧ ROW.size = G * 13 ∧ (∀ (j : Nat) (v : Value), (cs.take (i * 13))[j]? = some v → ROW[j]? = some v) ∧
      w' = (((w.alloc (.cells ROW 37)).drew.setCells w.heap.size (i * 13) vs).drew).setCells w.heap.size ((i + m) * 13) (cs.drop (i * 13)) := by
  obtain ⟨i0, hi0, hz0, hzs, hzb⟩ := info_parts Tryz.infoSt
  have mixed : Tryz.prog.follows Departure.mixedOrders = true := by kernel_rfl
  have hz1 : ¬ ((m : Int) = 0) := by omega
  have hz2 : ¬ ((i : Int) = (n : Int)) := by omega
  have hz3 : (c : Int) < (n : Int) + (m : Int) := by omega
  have hsz : (Tryz.prog.info? 37).map (·.size) = some 13 := Tryz.sizeStv
  have hbw : b < w.heap.size := block_lt_of_cell (hcs 0 _ (List.getElem?_eq_getElem (by omega)))
  have hvw : vb < w.heap.size := block_lt_of_cell (hvs 0 _ (List.getElem?_eq_getElem (by omega)))
  have hkk : (n : Int) + (m : Int) - (i : Int) = ((n + m - i : Nat) : Int) := by omega
  have hik : i + (n + m - i) = n + m := by omega
  have hold : (Builtin.firstCells i0.size i (.slice (some ⟨b, off, none⟩) i c)).run Tryz.prog w.drew = .ok (cs.take (i * 13)).toArray w.drew := by
    rw [hzs]
    exact run_firstCells_some w.drew 13 i ⟨b, off, none⟩ i c (cs.take (i * 13)) (by rw [List.length_take]; omega) (fun j v hj => by
      rw [Addr.add_lit]
      rw [List.getElem?_take] at hj
      split at hj
      · exact hcs j v hj
      · cases hj)
  obtain ⟨G, hG⟩ : ∃ G, G = grownCap w (n + m) c 37 := ⟨_, rfl⟩
  obtain ⟨ROW, hROW⟩ : ∃ ROW : Array Value, ROW = (cs.take (i * 13)).toArray ++ Builtin.zeroCells (Value.agg #[.int .i64 0, .int .i64 0, .string ⟨#[]⟩, .int .i64 0, .int .i64 0, .int .i64 0, .int .i64 0, .int .i64 0, .slice none 0 0, .slice none 0 0, .string ⟨#[]⟩, .int .i64 0, .string ⟨#[]⟩]).cells (n + m - i) ++ Builtin.zeroCells (Value.agg #[.int .i64 0, .int .i64 0, .string ⟨#[]⟩, .int .i64 0, .int .i64 0, .int .i64 0, .int .i64 0, .int .i64 0, .slice none 0 0, .slice none 0 0, .string ⟨#[]⟩, .int .i64 0, .string ⟨#[]⟩]).cells (G - (n + m)) := ⟨_, rfl⟩
  have hrz : ∀ ty, (Builtin.append_ #[27, 3] ty #[.slice (some ⟨b, off, none⟩) i c, .int .i64 ((n : Int) + (m : Int) - (i : Int))]).run Tryz.prog w =
      .ok (.slice (some ⟨w.heap.size, 0, none⟩) (n + m) G) (w.drew.alloc (.cells ROW 37)) := fun ty => by
    have h := Lib.run_append_grow_zeros w 27 3 ty 37 i0 _ .i64 .i64 Tryz.underlying27 Tryz.underlying3 hi0 hz0 (some ⟨b, off, none⟩) i c (cs.take (i * 13)) hold (n + m - i) (by omega) (by omega) (by omega) (by omega) (by rw [hzb]; omega) (by rw [hzb, hik]; exact growslice_fits hroom hbig)
    rw [hik] at h
    rw [hkk, hROW, hG]
    exact h
  have hzl : ∀ q, (Builtin.zeroCells (Value.agg #[.int .i64 0, .int .i64 0, .string ⟨#[]⟩, .int .i64 0, .int .i64 0, .int .i64 0, .int .i64 0, .int .i64 0, .slice none 0 0, .slice none 0 0, .string ⟨#[]⟩, .int .i64 0, .string ⟨#[]⟩]).cells q).size = q * 13 := fun q => by simp [Builtin.zeroCells, Value.cells]
  have hGn : n + m ≤ G := by rw [hG]; exact grownCap_ge w _ _ _
  have hGm : G ≤ maxLen := by
    have := grownCap_le_maxLen w (n + m) c 37 (by unfold maxLen; omega)
    rw [← hG] at this
    exact this
  have hG63 : G ≤ 9223372036854775807 := by unfold maxLen at hGm; omega
  have hRs : ROW.size = G * 13 := by
    rw [hROW]
    simp only [Array.size_append, hzl, List.size_toArray, List.length_take]
    omega
  have hRt : ∀ j v, (cs.take (i * 13))[j]? = some v → ROW[j]? = some v := fun j v hj => by
    have hlt := (List.getElem?_eq_some_iff.1 hj).1
    rw [hROW, Array.getElem?_append_left (by simp only [Array.size_append, List.size_toArray]; omega), Array.getElem?_append_left (by simp only [List.size_toArray]; omega)]
    simpa using hj
  obtain ⟨W1, hW1⟩ : ∃ W1, W1 = w.drew.alloc (.cells ROW 37) := ⟨_, rfl⟩
  rw [← hW1] at hrz
  have hN : ∀ j, j < (n + m) * 13 → (W1.cell? ⟨w.heap.size, j, none⟩).isSome = true := fun j hj => by
    rw [hW1, World.cell?_alloc_at (w := w.drew) ROW _ w.heap.size j rfl, Array.getElem?_eq_getElem (by omega)]; rfl
  have hNf : ∀ j, W1.frozen? ⟨w.heap.size, j, none⟩ = false := fun j => by rw [hW1]; exact World.frozen?_alloc_at (w := w.drew) ROW _ w.heap.size j rfl
  have hOb : ∀ j v, w.cell? ⟨b, j, none⟩ = some v → W1.cell? ⟨b, j, none⟩ = some v := fun j v h => by rw [hW1, World.cell?_alloc_past (w := w.drew) _ b j hbw]; exact h
  have hOv : ∀ j v, w.cell? ⟨vb, j, none⟩ = some v → W1.cell? ⟨vb, j, none⟩ = some v := fun j v h => by rw [hW1, World.cell?_alloc_past (w := w.drew) _ vb j hvw]; exact h
  have hcpA : ∀ (W : World), (∀ x, W.cell? x = W1.cell? x) → (∀ x, W.frozen? x = W1.frozen? x) → ∀ ty dc, (Builtin.copy_ #[27, 27] ty #[.slice (some ⟨w.heap.size, i * 13, none⟩) (n + m - i) dc, .slice (some ⟨vb, voff, none⟩) m vc]).run Tryz.prog W = .ok (goInt (Nat.min m (n + m - i))) (W.setCells w.heap.size (i * 13) vs) := fun W hWc hWf ty dc =>
    run_copy_k W _ _ ty 37 13 w.heap.size (i * 13) (n + m - i) dc ⟨vb, voff, none⟩ m vc vs Tryz.underlying27 hsz (by rw [hvl, show Nat.min m (n + m - i) = m by simp only [Nat.min_def]; split <;> omega])
      (fun j v hj => by rw [Addr.add_lit, hWc]; exact hOv _ v (hvs j v hj))
      (fun j hj => by rw [hWc]; exact hN _ (by omega)) (fun j hj => by rw [hWf]; exact hNf _) h1v
  have hGi : ¬ (G = i) := by omega
  have hGim : ¬ (G = i + m) := by omega
  have hci : ¬ (c = i) := by omega
  have hbN : b ≠ w.heap.size := by omega
  have hdl : (cs.drop (i * 13)).length = (n - i) * 13 := by rw [List.length_drop, hcl]; omega
  have hcpB : ∀ (W : World), (∀ x, W.cell? x = (W1.setCells w.heap.size (i * 13) vs).cell? x) → (∀ x, W.frozen? x = (W1.setCells w.heap.size (i * 13) vs).frozen? x) → ∀ ty dc sc, (Builtin.copy_ #[27, 27] ty #[.slice (some ⟨w.heap.size, (i + m) * 13, none⟩) (n + m - (i + m)) dc, .slice (some ⟨b, off + i * 13, none⟩) (n - i) sc]).run Tryz.prog W = .ok (goInt (Nat.min (n - i) (n + m - (i + m)))) (W.setCells w.heap.size ((i + m) * 13) (cs.drop (i * 13))) := fun W hWc hWf ty dc sc =>
    run_copy_k W _ _ ty 37 13 w.heap.size ((i + m) * 13) (n + m - (i + m)) dc ⟨b, off + i * 13, none⟩ (n - i) sc (cs.drop (i * 13)) Tryz.underlying27 hsz (by rw [hdl, show Nat.min (n - i) (n + m - (i + m)) = n - i by simp only [Nat.min_def]; split <;> omega])
      (fun j v hj => by
        rw [Addr.add_lit, hWc, World.cell?_setCells_out _ _ _ _ _ (fun h _ => absurd h hbN), Nat.add_assoc]
        exact hOb _ v (hcs (i * 13 + j) v (by rwa [List.getElem?_drop] at hj)))
      (fun j hj => by rw [hWc]; exact isSome_setC _ _ _ _ (fun t ht => hN _ (by omega)) _ (hN _ (by omega)))
      (fun j hj => by rw [hWf, World.frozen?_setCells]; exact hNf _) (fun v hv => h1c v (List.mem_of_mem_drop hv))
  subst hW1
  have hE1 : ∀ x, ((w.alloc (.cells ROW 37)).drew).cell? x = (w.drew.alloc (.cells ROW 37)).cell? x := fun x => rfl
  have hE2 : ∀ x, ((w.alloc (.cells ROW 37)).drew).frozen? x = (w.drew.alloc (.cells ROW 37)).frozen? x := fun x => rfl
  have hF1 : ∀ x, (((w.alloc (.cells ROW 37)).drew.setCells w.heap.size (i * 13) vs).drew).cell? x = ((w.drew.alloc (.cells ROW 37)).setCells w.heap.size (i * 13) vs).cell? x := fun x => rfl
  have hF2 : ∀ x, (((w.alloc (.cells ROW 37)).drew.setCells w.heap.size (i * 13) vs).drew).frozen? x = ((w.drew.alloc (.cells ROW 37)).setCells w.heap.size (i * 13) vs).frozen? x := fun x => rfl
  have hw1 : IntKind.i64.wrap ((i : Int) + (m : Int)) = (i : Int) + (m : Int) := by rw [IntKind.wrap_i64]; omega
  have hb1 : (0 : Int) ≤ (i : Int) + (m : Int) := by omega
  have hin : i ≤ n := by omega
  have htn : ((i : Int) + (m : Int)).toNat = i + m := by omega
  have hb3 : (i : Int) ≤ (n : Int) := by omega
  have HR1 := Lib.hid hGn
  have HR2 := Lib.hid hGm
  have HR3 := Lib.hid hRs
  have HR4 := Lib.hid hRt
  clear hkk hik hold hROW hG hRs hRt hzl hGm hcs hvs h1c h1v hcl hvl hdl hN hNf hOb hOv hi0 hz0 hzs hzb
  go_enter Tryz.func122, Tryz.ntmps122
  go_wp2_with (first
    | (at_builtin; refine Lib.wpList_append_run _ rfl _ _ _ _ rfl _ _ rfl rfl _ _ (hrz _) ?_)
    | (at_builtin; refine wpList_copyR _ rfl _ _ 27 27 rfl _ _ rfl rfl (hcpA _ hE1 hE2 _ _) ?_)
    | (at_builtin; refine wpList_copyR _ rfl _ _ 27 27 rfl _ _ rfl rfl (hcpB _ (fun _ => rfl) (fun _ => rfl) _ _ _) ?_))
  go_region_law_o (refine step_copyR rfl _ _ 27 27 rfl (.slice (some ⟨w.heap.size, (i + m) * 13, none⟩) (n + m - (i + m)) (G - (i + m))) (.slice (some ⟨b, off + i * 13, none⟩) (n - i) (c - i)) (by simp [Act.eval, Act.put]) (by simp [Act.eval, Act.put]) (hcpB _ hF1 hF2 3 (G - (i + m)) (c - i)) ?_)
  go_wp2
  go_ret
  exact ⟨ROW, G, rfl, HR1.out, HR2.out, HR3.out, HR4.out, rfl⟩
end Go.Proofs.YtaakacahblndcaaGreat

namespace Go.Proofs.YtaakacahblndcaaGreat
open Go.RowKit Go.Sort

theorem setCells_other {g b : Nat} (hb : b ≠ g) (vs : List Value) : ∀ (w : World) (o : Nat), (w.setCells g o vs).heap[b]? = w.heap[b]? := by
  induction vs with
  | nil => exact fun _ _ => rfl
  | cons v r ih => exact fun w o => (ih _ _).trans (Below.heap_setCell _ _ _ _ (show b ≠ g from hb))
theorem setCells_ex {g B : Nat} {p : Option Nat} (hp : p = some g ∨ B ≤ g) (vs : List Value) : ∀ {a w : World} (o : Nat), Ex B p a w → Ex B p a (w.setCells g o vs) := by
  induction vs with
  | nil => exact fun _ h => h
  | cons v r ih => exact fun o h => ih _ (h.setCell _ _ _ hp)
theorem setCells_there {g : Nat} {t : TypeId} {fr : Nat × Nat} (vs : List Value) : ∀ {w : World} (o : Nat) {cur : Array Value}, w.heap[g]? = some (.cells cur t fr) → ∃ cur', (w.setCells g o vs).heap[g]? = some (.cells cur' t fr) ∧ cur'.size = cur.size := by
  induction vs with
  | nil => exact fun _ cur h => ⟨cur, h, rfl⟩
  | cons v r ih =>
    intro w o cur h
    obtain ⟨c, h1, h2⟩ := ih (w := w.setCell ⟨g, o, none⟩ v) (o + 1) (cur := cur.setIfInBounds o v) (by simp only [World.setCell, Array.getElem?_modify, if_true, h, Option.map_some]; simp)
    exact ⟨c, h1, by rw [h2]; simp⟩
section
variable {α : Type} {enc : α → List Value} {k : Nat}
theorem flatL_split (xs : List α) (i : Nat) : flatL enc xs = flatL enc (xs.take i) ++ flatL enc (xs.drop i) := by
  unfold flatL
  rw [← List.flatMap_append, List.take_append_drop]
theorem flatL_take (hk : ∀ x, (enc x).length = k) (xs : List α) (i : Nat) : flatL enc (xs.take i) = (flatL enc xs).take (i * k) := by
  by_cases h : i ≤ xs.length
  · have hl : (flatL enc (xs.take i)).length = i * k := by rw [flatL_len hk, List.length_take, Nat.min_eq_left h]
    rw [flatL_split xs i]
    exact (List.take_left' hl).symm
  · have hl := flatL_len hk xs
    have h2 : xs.length * k ≤ i * k := Nat.mul_le_mul_right _ (by omega)
    rw [List.take_of_length_le (l := xs) (by omega), List.take_of_length_le (by omega)]
theorem flatL_drop (hk : ∀ x, (enc x).length = k) (xs : List α) (i : Nat) : flatL enc (xs.drop i) = (flatL enc xs).drop (i * k) := by
  by_cases h : i ≤ xs.length
  · have hl : (flatL enc (xs.take i)).length = i * k := by rw [flatL_len hk, List.length_take, Nat.min_eq_left h]
    rw [flatL_split xs i]
    exact (List.drop_left' hl).symm
  · have hl := flatL_len hk xs
    have h2 : xs.length * k ≤ i * k := Nat.mul_le_mul_right _ (by omega)
    rw [List.drop_of_length_le (l := xs) (by omega), List.drop_of_length_le (by omega)]; rfl
theorem flatL_app (xs ys : List α) : flatL enc (xs ++ ys) = flatL enc xs ++ flatL enc ys := by simp [flatL]
/-- A row known by its cells. -/
theorem own_of_cells (hk : ∀ x, (enc x).length = k) {w : World} {base g n cap : Nat} {cur : Array Value} {e : TypeId} {xs : List α} (hb : base ≤ g) (hh : w.heap[g]? = some (.cells cur e (0, 0))) (hx : xs.length = n) (hn : n ≤ cap) (hcm : cap ≤ maxLen) (hcs : cur.size = cap * k)
    (hc : ∀ j v, (flatL enc xs)[j]? = some v → w.cell? ⟨g, j, none⟩ = some v) : OwnE enc k e w base (some ⟨g, 0, none⟩) cap xs := by
  refine ⟨flatL_len hk xs, .inr ⟨g, cap, cur, rfl, hb, hh, by omega, hcm, hcs, ?_⟩⟩
  have hle : xs.length * k ≤ cap * k := Nat.mul_le_mul_right _ (by omega)
  have hl := flatL_len hk xs
  apply List.ext_getElem?
  intro j
  rw [List.getElem?_take]
  by_cases hj : j < xs.length * k
  · have h0 := List.getElem?_eq_getElem (l := flatL enc xs) (i := j) (by rw [hl]; exact hj)
    have := hc j _ h0
    rw [cell_of_row _ _ _ _ _ _ hh] at this
    rw [if_pos hj, Array.getElem?_toList, h0]; exact this
  · rw [if_neg hj, List.getElem?_eq_none (by omega)]
end

/-- The row with one statement put in. -/
theorem putIn_cells {i n : Nat} {xs : List (St × Sv × Sv)} {y : St × Sv × Sv} (hn : xs.length = n) (hi : i ≤ n) (j : Nat) (v : Value) (h : (flatL stE (xs.take i ++ [y] ++ xs.drop i))[j]? = some v) :
    (j < i * 13 ∧ (flatL stE xs)[j]? = some v) ∨ (i * 13 ≤ j ∧ j < (i + 1) * 13 ∧ (stE y)[j - i * 13]? = some v) ∨ ((i + 1) * 13 ≤ j ∧ ((flatL stE xs).drop (i * 13))[j - (i + 1) * 13]? = some v) := by
  have e : flatL stE [y] = stE y := by simp [flatL]
  have hl := flatL_len stE_len xs
  rw [flatL_app, flatL_app, flatL_take stE_len, flatL_drop stE_len, e] at h
  have h1 : ((flatL stE xs).take (i * 13)).length = i * 13 := by rw [List.length_take, hl]; omega
  have h2 : (stE y).length = 13 := stE_len y
  by_cases c1 : j < i * 13
  · left
    refine ⟨c1, ?_⟩
    rw [List.append_assoc, List.getElem?_append_left (by omega), List.getElem?_take, if_pos c1] at h
    exact h
  · right
    rw [List.append_assoc, List.getElem?_append_right (by omega), h1] at h
    by_cases c2 : j < (i + 1) * 13
    · left
      rw [List.getElem?_append_left (by omega)] at h
      exact ⟨by omega, c2, h⟩
    · right
      rw [List.getElem?_append_right (by omega), h2] at h
      exact ⟨by omega, by rw [← h]; congr 1; omega⟩

set_option maxHeartbeats 2000000 in
set_option maxRecDepth 100000 in
/-- One statement put into an owned row. -/
theorem insertSt_own (base base2 i n vc rc : Nat) (ro : Option Addr) (vo : Option Addr) (l : List St) (x : St) (w : World) (hO : OwnS w base ro rc l) (hn : l.length = n) (hi : i ≤ n) (hV : OwnS w base2 vo vc [x]) (hb : base ≤ base2) (hr : ∀ b, rowOf ro = some b → b < base2) (hb2 : base2 ≤ w.heap.size) (hm : n ≤ 100000) :
    Calls Tryz.prog 122 #[.slice ro n rc, .int .i64 i, .slice vo 1 vc] w fun e w' =>
      ∃ ro' rc' n', e = .returned (.slice ro' n' rc') ∧ n' = n + 1 ∧ OwnS w' base ro' rc' (l.take i ++ [x] ++ l.drop i) ∧ Ex base none w w' := by
  obtain ⟨xs, hxs, hown, hlies⟩ := hO
  obtain ⟨ys, hys, hvown, hvlies⟩ := hV
  have hxl : xs.length = n := by rw [← hn, ← hxs]; simp
  obtain ⟨y, rfl⟩ : ∃ y, ys = [y] := by
    match ys, hys with
    | [y], _ => exact ⟨y, rfl⟩
  simp only [List.map_cons, List.map_nil, List.cons.injEq, and_true] at hys
  subst hys
  have hvown' := hvown
  rcases hvown.2 with ⟨e, _⟩ | ⟨vb, vcap, vcur, e, hvb, hvh, hvn, hvm, hvs, hvt⟩
  · cases e
  simp only [Value.slice.injEq, List.length_singleton, true_and] at e
  obtain ⟨rfl, rfl⟩ := e
  have hvw : vb < w.heap.size := (Array.getElem?_eq_some_iff.1 hvh).1
  have hvc : ∀ j v, (stE y)[j]? = some v → w.cell? ⟨vb, 0 + j, none⟩ = some v := fun j v hj => by
    have h1 : (flatL stE [y])[j]? = some v := by simpa [flatL] using hj
    have := (own_there hvown').2.2.2.2.1 j v h1
    rw [Nat.zero_add]; exact this
  have hbase : base ≤ w.heap.size := by omega
  have hres : (xs.take i ++ [y] ++ xs.drop i).map (·.1) = l.take i ++ [y.1] ++ l.drop i := by rw [← hxs]; simp [List.map_take, List.map_drop]
  have hlen' : (xs.take i ++ [y] ++ xs.drop i).length = n + 1 := by simp; omega
  have hmem : ∀ z ∈ xs.take i ++ [y] ++ xs.drop i, z ∈ xs ∨ z = y := fun z hz => by
    simp only [List.mem_append, List.mem_singleton] at hz
    rcases hz with (hz | hz) | hz
    · exact .inl (List.mem_of_mem_take hz)
    · exact .inr hz
    · exact .inl (List.mem_of_mem_drop hz)
  -- what becomes of the lists, where the row turns to another block or stays
  have hlies' : ∀ (w' : World) (ro' : Option Addr), (∀ b, b < w.heap.size → rowOf ro ≠ some b → w'.heap[b]? = w.heap[b]?) → (rowOf ro' = rowOf ro ∨ rowOf ro' = some w.heap.size) → ∀ z ∈ xs.take i ++ [y] ++ xs.drop i, Lies (fun b => base ≤ b ∧ rowOf ro' ≠ some b) w' z := fun w' ro' hk hro z hz => by
    have h0 : Lies (fun b => (base ≤ b ∧ rowOf ro ≠ some b) ∧ b < w.heap.size) w z := by
      rcases hmem z hz with h | rfl
      · exact (hlies z h).mono fun b hb hlt => ⟨hb, hlt⟩
      · exact (hvlies z (by simp)).mono fun b hb' hlt => ⟨⟨by omega, fun e => by have := hr b e; omega⟩, hlt⟩
    refine (h0.keep fun b hb hlt => hk b hlt hb.1.2).mono fun b hb _ => ⟨hb.1.1, fun e => ?_⟩
    rcases hro with h | h
    · exact hb.1.2 (h ▸ e)
    · rw [h] at e; cases e; omega
  by_cases hin : i = n
  · subst hin
    have hz1 : ¬ ((1 : Int) = 0) := by decide
    have htk : xs.take i ++ [y] ++ xs.drop i = xs ++ [y] := by
      rw [List.take_of_length_le (by omega), List.drop_of_length_le (by omega), List.append_nil]
    have HO := Lib.hid hown
    have HRS := Lib.hid hres
    have HLS := Lib.hid hlies'
    have HVC := Lib.hid hvc
    have HXL := Lib.hid hxl
    have HTK := Lib.hid htk
    clear hxs hown hlies hvlies hvown hvown' hvh hvs hvt hres hlies' hvc hxl htk hmem hlen' hr hn
    go_enter Tryz.func122, Tryz.ntmps122
    go_wp2_with (at_builtin; refine wpList_appE2 rfl _ _ _ 37 rfl Tryz.underlying27 _ 13 160 Tryz.infoSt rfl (by decide) (by decide) stE stE_len one_stE base ro rc i xs HXL.out rfl (some ⟨vb, 0, none⟩) 1 vc rfl [y] rfl HO.out (.inr ⟨_, rfl, fun j v hj => by
        have h1 : (stE y)[j]? = some v := by simpa [flatL] using hj
        rw [Addr.add_lit]; exact HVC.out j v h1⟩) (by omega) hbase (i + 1) rfl ?_; intro ao2 cap2 w6 hown6 hex6 hk6 hr6)
    all_goals
      have H6 := Lib.hid (show OwnS w6 base ao2 cap2 (l.take i ++ [y.1] ++ l.drop i) ∧ Ex base none w w6 from ⟨⟨_, HRS.out, by rw [HTK.out]; exact hown6, HLS.out w6 ao2 hk6 hr6⟩, hex6⟩)
      clear hown6 hex6 hk6 hr6
      go_ret
      exact ⟨ao2, cap2, i + 1, rfl, rfl, by simpa using H6.out.1, H6.out.2⟩
  · have hlt : i < n := by omega
    rcases hown.2 with ⟨e, e2⟩ | ⟨g, cap, cur, e, hg, hh, hnc, hcm, hcs, htk⟩
    · omega
    simp only [Value.slice.injEq] at e
    obtain ⟨rfl, _, rfl⟩ := e
    rw [hxl] at hnc
    have hgw : g < w.heap.size := (Array.getElem?_eq_some_iff.1 hh).1
    have hgv : vb ≠ g := fun e => by have := hr g rfl; omega
    have hfl : (flatL stE xs).length = n * 13 := by rw [flatL_len stE_len, hxl]
    have hcc : ∀ j v, (flatL stE xs)[j]? = some v → w.cell? ⟨g, 0 + j, none⟩ = some v := fun j v hj => by rw [Nat.zero_add]; exact (own_there hown).2.2.2.2.1 j v hj
    by_cases hroom : n + 1 ≤ rc
    · refine (insertSt_shift g 0 n rc i vb 0 1 vc (flatL stE xs) (stE y) w hlt (by decide) hroom (by unfold maxLen at hcm; omega) hgv hfl (stE_len y) hcc
        (fun j hj => by rw [cell_of_row _ _ _ _ _ _ hh, Array.getElem?_eq_getElem (by omega)]; rfl) (fun j hj => by simp [World.frozen?, hh]) hvc (flatL_one one_stE xs) (one_stE y) 37 37 vcur.size cur.size (by simp [World.shape?, hvh]) (by simp [World.shape?, hh]) (by omega) (by simp [World.frozen?, hvh]) (by simp [World.frozen?, hvh])).mono ?_
      rintro e w' ⟨rfl, rfl⟩
      refine ⟨some ⟨g, 0, none⟩, rc, n + 1, rfl, rfl, ⟨_, hres, ?_, ?_⟩, ?_⟩
      · obtain ⟨c1, hc1, hs1⟩ := setCells_there (w := w.drew) ((flatL stE xs).drop (i * 13)) (0 + (i + 1) * 13) (show w.drew.heap[g]? = _ from hh)
        obtain ⟨c2, hc2, hs2⟩ := setCells_there (stE y) (0 + i * 13) hc1
        refine own_of_cells stE_len hg hc2 hlen' hroom hcm (by rw [hs2, hs1]; exact hcs) fun j v hj => ?_
        have hdl : ((flatL stE xs).drop (i * 13)).length = (n - i) * 13 := by rw [List.length_drop, hfl]; omega
        have hcur : ∀ q, q < (n + 1) * 13 → (w.drew.cell? ⟨g, q, none⟩).isSome = true := fun q hq => by
          show (w.cell? _).isSome = true
          rw [cell_of_row _ _ _ _ _ _ hh, Array.getElem?_eq_getElem (by omega)]; rfl
        have hcur1 : ∀ q, q < (n + 1) * 13 → ((w.drew.setCells g (0 + (i + 1) * 13) ((flatL stE xs).drop (i * 13))).cell? ⟨g, q, none⟩).isSome = true := fun q hq =>
          isSome_setC g _ _ _ (fun t ht => hcur _ (by omega)) q (hcur q hq)
        rcases putIn_cells hxl hi j v hj with ⟨h1, h2⟩ | ⟨h1, h2, h3⟩ | ⟨h1, h2⟩
        · rw [World.cell?_setCells_out g _ _ _ _ (fun _ _ => by left; show j < 0 + i * 13; omega), World.cell?_setCells_out g _ _ _ _ (fun _ _ => by left; show j < 0 + (i + 1) * 13; omega)]
          have := hcc j v h2
          rw [Nat.zero_add] at this
          exact this
        · have := World.cell?_setCells_in g (stE y) (0 + i * 13) (w.drew.setCells g (0 + (i + 1) * 13) ((flatL stE xs).drop (i * 13))) (fun t ht => hcur1 _ (by rw [stE_len] at ht; omega)) (j - i * 13) (by rw [stE_len]; omega)
          rw [show 0 + i * 13 + (j - i * 13) = j by omega] at this
          rw [this, (List.getElem?_eq_some_iff.1 h3).2]
        · have hlt2 := (List.getElem?_eq_some_iff.1 h2).1
          rw [World.cell?_setCells_out g _ _ _ _ (fun _ _ => by right; show 0 + i * 13 + (stE y).length ≤ j; rw [stE_len]; omega)]
          have := World.cell?_setCells_in g ((flatL stE xs).drop (i * 13)) (0 + (i + 1) * 13) w.drew (fun t ht => hcur _ (by omega)) (j - (i + 1) * 13) hlt2
          rw [show 0 + (i + 1) * 13 + (j - (i + 1) * 13) = j by omega] at this
          rw [this, (List.getElem?_eq_some_iff.1 h2).2]
      · exact hlies' _ _ (fun b hb hne => (setCells_other (fun e => hne (by rw [e]; rfl)) _ _ _).trans (setCells_other (fun e => hne (by rw [e]; rfl)) _ _ _)) (.inl rfl)
      · exact setCells_ex (.inr hg) _ _ (setCells_ex (.inr hg) _ _ (Ex.refl _ _ w).drew)
    · refine (insertSt_grow g 0 n rc i vb 0 1 vc (flatL stE xs) (stE y) w hlt (by decide) hnc (by omega) (by omega) hfl (stE_len y) hcc hvc (flatL_one one_stE xs) (one_stE y)).mono ?_
      rintro e w' ⟨ROW, G, rfl, hG1, hG2, hRs, hRt, rfl⟩
      have hne : g ≠ w.heap.size := by omega
      have h0 : ((w.alloc (.cells ROW 37)).drew).heap[w.heap.size]? = some (.cells ROW 37 (0, 0)) := heap_alloc_new w _
      obtain ⟨W0, hW0⟩ : ∃ W0, W0 = (w.alloc (.cells ROW 37)).drew := ⟨_, rfl⟩
      have hE0 : Ex base none w W0 := by rw [hW0]; exact ((Ex.refl base none w).alloc hbase _).drew
      have hK0 : ∀ b, b < w.heap.size → W0.heap[b]? = w.heap[b]? := fun b hb => by rw [hW0]; exact (Ex.new w (.cells ROW 37)).block b hb (by simp)
      rw [← hW0] at h0 ⊢
      clear hW0
      have hcur : ∀ q, q < (n + 1) * 13 → (W0.cell? ⟨w.heap.size, q, none⟩).isSome = true := fun q hq => by
        rw [cell_of_row _ _ _ _ _ _ h0, Array.getElem?_eq_getElem (by omega)]; rfl
      have hsl : (stE y).length = 13 := stE_len y
      obtain ⟨vs, hvs2⟩ : ∃ vs, vs = stE y := ⟨_, rfl⟩
      rw [← hvs2] at hsl ⊢
      obtain ⟨W1, hW1⟩ : ∃ W1, W1 = W0.setCells w.heap.size (i * 13) vs := ⟨_, rfl⟩
      obtain ⟨c1, hc1, hs1⟩ : ∃ c1 : Array Value, W1.heap[w.heap.size]? = some (.cells c1 37 (0, 0)) ∧ c1.size = ROW.size := by rw [hW1]; exact setCells_there vs (i * 13) h0
      have hE1 : Ex base none w W1 := by rw [hW1]; exact setCells_ex (.inr hbase) _ _ hE0
      have hK1 : ∀ b, b < w.heap.size → W1.heap[b]? = w.heap[b]? := fun b hb => by rw [hW1]; exact (setCells_other (by omega) _ _ _).trans (hK0 b hb)
      have hlo : ∀ (j : Nat) (v : Value), j < i * 13 → (flatL stE xs)[j]? = some v → W1.cell? ⟨w.heap.size, j, none⟩ = some v := fun j v h1 h2 => by
        rw [hW1, World.cell?_setCells_out _ _ _ _ _ (fun _ _ => by left; show j < i * 13; omega), cell_of_row _ _ _ _ _ _ h0]
        exact hRt j v (by rw [List.getElem?_take, if_pos h1]; exact h2)
      have hmid : ∀ (j : Nat) (v : Value), i * 13 ≤ j → j < (i + 1) * 13 → vs[j - i * 13]? = some v → W1.cell? ⟨w.heap.size, j, none⟩ = some v := fun j v h1 h2 h3 => by
        have := World.cell?_setCells_in w.heap.size vs (i * 13) W0 (fun t ht => hcur _ (by omega)) (j - i * 13) (by omega)
        rw [show i * 13 + (j - i * 13) = j by omega] at this
        rw [hW1, this, (List.getElem?_eq_some_iff.1 h3).2]
      have hcur1 : ∀ q, q < (n + 1) * 13 → (W1.drew.cell? ⟨w.heap.size, q, none⟩).isSome = true := fun q hq => by
        rw [World.cell?_drew, hW1]
        exact isSome_setC w.heap.size vs (i * 13) W0 (fun t ht => hcur _ (by omega)) q (hcur q hq)
      rw [← hW1]
      clear hW1
      have hc1' : W1.drew.heap[w.heap.size]? = some (.cells c1 37 (0, 0)) := hc1
      refine ⟨some ⟨w.heap.size, 0, none⟩, G, n + 1, rfl, rfl, ⟨_, hres, ?_, ?_⟩, ?_⟩
      · obtain ⟨c2, hc2, hs2⟩ := setCells_there ((flatL stE xs).drop (i * 13)) ((i + 1) * 13) hc1'
        refine own_of_cells stE_len hbase hc2 hlen' hG1 hG2 (by rw [hs2, hs1]; exact hRs) fun j v hj => ?_
        have hdl : ((flatL stE xs).drop (i * 13)).length = (n - i) * 13 := by rw [List.length_drop, hfl]; omega
        rcases putIn_cells hxl hi j v hj with ⟨h1, h2⟩ | ⟨h1, h2, h3⟩ | ⟨h1, h2⟩
        · rw [World.cell?_setCells_out _ _ _ _ _ (fun _ _ => by left; show j < (i + 1) * 13; omega), World.cell?_drew]
          exact hlo j v h1 h2
        · rw [World.cell?_setCells_out _ _ _ _ _ (fun _ _ => by left; show j < (i + 1) * 13; omega), World.cell?_drew]
          exact hmid j v h1 h2 (by rw [hvs2]; exact h3)
        · have hlt2 := (List.getElem?_eq_some_iff.1 h2).1
          have := World.cell?_setCells_in w.heap.size ((flatL stE xs).drop (i * 13)) ((i + 1) * 13) W1.drew (fun t ht => hcur1 _ (by omega)) (j - (i + 1) * 13) hlt2
          rw [show (i + 1) * 13 + (j - (i + 1) * 13) = j by omega] at this
          rw [this, (List.getElem?_eq_some_iff.1 h2).2]
      · exact hlies' _ _ (fun b hb _ => (setCells_other (by omega) _ _ _).trans (hK1 b hb)) (.inr rfl)
      · exact setCells_ex (.inr hbase) _ _ hE1.drew
end Go.Proofs.YtaakacahblndcaaGreat

namespace Go.Proofs.YtaakacahblndcaaGreat
open Go.RowKit Go.Sort
theorem rowBuild_stv (n : Nat) (ps : Array (Nat × Value)) : Instr.buildSlice 27 n ps = rowBuild 27 n ps := rfl
attribute [local go_sem ↓] rowLoad_stv rowStore_stv rowBuild_stv

theorem stV_lit (w : World) (x : St × Sv × Sv) : (rowBuild 27 1 #[(0, stV x)]).run Tryz.prog w = .ok (.slice (some ⟨w.heap.size, 0, none⟩) 1 1) (w.alloc (.cells (stV x).cells 37)) :=
  run_rowBuild w 27 37 (stV x).cells 13 160 _ Tryz.underlying27 Tryz.infoSt (by decide) (by decide) rfl
theorem stV_one_sl {P : Nat → Prop} {w : World} {x : St × Sv × Sv} {g : Nat} {t : TypeId} {fr : Nat × Nat} (hP : P g) (h : w.heap[g]? = some (.cells (stV x).cells t fr)) (hl : Lies P w x) : Sl stRep P w (.slice (some ⟨g, 0, none⟩) 1 1) [x.1] := by
  refine ⟨some ⟨g, 0, none⟩, 1, rfl, fun i hi => ?_⟩
  obtain rfl : i = 0 := by simpa using hi
  refine ⟨g, 0, stE x, rfl, hP, fun j v hj => ?_, x.2.1, x.2.2, rfl, hl⟩
  rw [cell_of_row _ _ _ _ _ _ h, stV_cells]
  show (stE x).toArray[0 + 0 * 13 + j]? = some v
  simpa using hj
/-- What Put makes of a row. -/
def putA (l : List St) (x : St) (k : Nat) (b : Bool) : List St := if b then l else l.take k ++ [x] ++ l.drop k

set_option maxHeartbeats 4000000 in
set_option maxRecDepth 100000 in
theorem shelfPut_any {P : Nat → Prop} (base : Nat) (ro : Option Addr) (rc n : Nat) (l : List St) (x : St × Sv × Sv) (w : World) (hO : OwnS w base ro rc l) (hn : l.length = n) (hm : n ≤ 100000) (hb : base ≤ w.heap.size) (hsort : RisingA l) (hx : Lies P w x) (hL : x.1.list.length ≤ 1000000 ∧ x.1.pins.length ≤ 1000000) :
    Calls Tryz.prog 82 #[.slice ro n rc, stV x] w fun e w' => ∃ (k : Nat) (b : Bool) (ro' : Option Addr) (n' rc' : Nat), e = .returned (.tuple #[.slice ro' n' rc', .bool (!b)]) ∧ SearchR l x.1 k b ∧ n' = (putA l x.1 k b).length ∧ OwnS w' base ro' rc' (putA l x.1 k b) ∧ Ex base none w w' := by
  obtain ⟨w0, hw0⟩ : ∃ w0 : World, w0 = w.alloc (.cells (stV x).cells 37) := ⟨_, rfl⟩
  have hz0 : w0.heap.size = w.heap.size + 1 := by rw [hw0]; simp
  have HE0 : Hid (Ex w.heap.size none w w0) := Lib.hid (by rw [hw0]; exact Ex.new w _)
  have HT : Hid (∀ w', Ex w0.heap.size none w0 w' → (rowLoad 37 ⟨w.heap.size, 0, none⟩).run Tryz.prog w' = .ok (stV x) w') := Lib.hid (fun w' h => stV_box ((h.block w.heap.size (by omega) (by simp)).trans (by rw [hw0]; exact heap_alloc_new w _)))
  have HO : Hid (OwnS w0 base ro rc l ∧ ∀ b, rowOf ro = some b → b < w.heap.size) := Lib.hid ⟨hO.keep HE0.out (Nat.le_refl _), fun b e => by
    obtain ⟨xs, _, h1, _⟩ := hO
    cases ro with
    | none => cases e
    | some a => cases e; exact (h1.lt a rfl).2⟩
  have HLX : Hid (Lies P w0 x) := Lib.hid (hx.keep fun b _ hb => HE0.out.block b hb (by simp))
  have HS := Lib.hid hsort
  have HN := Lib.hid hn
  have HL := Lib.hid hL
  have ht := HT.out _ (Ex.refl _ _ w0)
  clear hO hsort hn hx hL
  go_enter Tryz.func82, Tryz.ntmps82
  go_upto_region 1 with (fail)
  refine wp_world (fun W => W = w0) (by rw [hw0]; rfl) (fun W hW => ?_)
  rw [hW]
  clear hW W hw0
  go_upto_region 2 with (first
    | (go_at_call 121
       refine (stSearch_any (P := fun b => base ≤ b) x w0 (by rw [← HN.out]; exact HO.out.1.sl) (by rw [HN.out]; omega) HS.out).mono ?_
       rintro e w1 ⟨k, b, rfl, hsr, hex⟩
       have HSR := Lib.hid hsr
       have HE1 := Lib.hid hex
       have hz1 : w0.heap.size ≤ w1.heap.size := hex.size
       have hkn : k ≤ n := by have := hsr.1; rw [HN.out] at this; exact this
       clear hsr hex ht
       have ht := HT.out _ HE1.out)
    | fail)
  cases b with
  | true =>
    go_wp2
    go_ret2
    exact ⟨k, true, ro, n, rc, rfl, HSR.out, HN.out.symm, HO.out.1.keep HE1.out (Nat.le_refl _), (HE0.out.trans HE1.out (by omega) (by simp)).trans (Ex.refl w1.heap.size none w1) (by omega) (by simp) |>.mono hb⟩
  | false =>
    have hlit := stV_lit w1 x
    obtain ⟨w2, hw2⟩ : ∃ w2 : World, w2 = w1.alloc (.cells (stV x).cells 37) := ⟨_, rfl⟩
    have hz2 : w2.heap.size = w1.heap.size + 1 := by rw [hw2]; simp
    have HE2 : Hid (Ex w0.heap.size none w0 w2) := Lib.hid (HE1.out.trans (by rw [hw2]; exact Ex.new w1 _) hz1 (by simp))
    have HB2 : Hid (w2.heap[w1.heap.size]? = some (.cells (stV x).cells 37 (0, 0))) := Lib.hid (by rw [hw2]; exact heap_alloc_new w1 _)
    rw [← hw2] at hlit
    clear hw2
    go_wp2_with (first
      | (go_at_call 83
         refine (shelfCopy_any (P := fun b => P b ∨ w1.heap.size ≤ b) _ [x.1] w2 (stV_one_sl (.inr (Nat.le_refl _)) HB2.out ((HLX.out.keep fun b _ hb => HE2.out.block b hb (by simp)).mono fun _ h _ => .inl h)) (by simp) (by intro s hs; rw [List.mem_singleton.1 hs]; exact HL.out)).mono ?_
         rintro e w3 ⟨vo, m, vc, rfl, hm1, hvo, hex⟩
         obtain rfl : m = 1 := hm1
         have HV := Lib.hid hvo
         have HE3 : Hid (Ex w2.heap.size none w2 w3) := Lib.hid hex
         have hz3 : w2.heap.size ≤ w3.heap.size := hex.size
         clear hvo hex)
      | (go_at_call 122
         refine (insertSt_own base w2.heap.size k n vc rc ro vo l x.1 w3 ((HO.out.1.keep HE2.out (Nat.le_refl _)).keep HE3.out (Nat.le_refl _)) HN.out hkn HV.out (by omega) (fun b e => by have := HO.out.2 b e; omega) hz3 hm).mono ?_
         rintro e w4 ⟨ro', rc', n', rfl, hn', hO', hex⟩
         have H4 : Hid (n' = n + 1 ∧ OwnS w4 base ro' rc' (l.take k ++ [x.1] ++ l.drop k) ∧ Ex base none w3 w4) := Lib.hid ⟨hn', hO', hex⟩
         clear hn' hO' hex)
      | fail)
    go_ret2
    refine ⟨k, false, ro', n', rc', rfl, HSR.out, ?_, H4.out.2.1, ?_⟩
    · rw [H4.out.1]
      simp only [putA, Bool.false_eq_true, if_false, List.length_append, List.length_take, List.length_drop, List.length_singleton, HN.out]
      omega
    · exact ((((HE0.out.trans HE2.out (by omega) (by simp)).trans HE3.out (by omega) (by simp)).mono hb).trans H4.out.2.2 (Nat.le_refl _) (by simp))
end Go.Proofs.YtaakacahblndcaaGreat

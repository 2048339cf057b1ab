/- epoch.Order, epoch.Latest: contracts, no statement of the seat. | The law's sanity check: a contract, no statement of the seat. -/
import Derived.Shelf.SlSortCmp.InsertionK
import Derived.Test.YtdmchekkcmjafaaStabAllStG
import Derived.Test.YtdmchekkcmjafaaMaxStG
import Derived.Test.YtdmchekkcmjafaaRefOrderG
import Derived.Test.YtdmchekkcmjafaaMg11
import Derived.Deep.RegionHeld3
namespace Go.Proofs
open Go.Shelf
def Try.insSt_ren : Go.Shelf.Ren := ⟨fun | 20 => 61 | n => n, fun | 24 => 30 | 22 => 22 | 3 => 3 | 25 => 53 | 4 => 4 | 0 => 0 | n => n, fun | n => n⟩
theorem Try.insSt : Go.Proofs.SlLaysF0.n20 Try.prog Try.insSt_ren := {
  mixed := by kernel_rfl
  f20 := ⟨Try.f61.name, by decide, Try.func61.trans (congrArg some (by kernel_rfl))⟩
  t0 := Try.underlying0
  a0 := Try.isAgg0
  z0 := Try.sizeOf0
  v0 := Try.zeroValue0
  t3 := Try.underlying3
  a3 := Try.isAgg3
  z3 := Try.sizeOf3
  v3 := Try.zeroValue3
  t4 := Try.underlying4
  a4 := Try.isAgg4
  z4 := Try.sizeOf4
  v4 := Try.zeroValue4
  t22 := Try.underlying22
  a22 := Try.isAgg22
  z22 := Try.sizeOf22
  v22 := Try.zeroValue22
  t25 := Try.underlying53
  a25 := Try.isAgg53
  z25 := Try.sizeOf53
  v25 := Try.zeroValue53 }
end Go.Proofs
namespace Go.Proofs.Ytdmchekkcmjafaa
open Go.RowKit Go.Sort

theorem ltTime {x y : St × Sv × Sv} : ltOf byTime x y = beforeB x.1 y.1 := by
  rw [Bool.eq_iff_iff, ← byTime_lt]; simp [ltOf]
theorem swo_byTime : SWO (ltOf byTime) := by
  refine ⟨fun x => ?_, fun x y z h1 h2 => ?_, fun x y z h1 h2 => ?_⟩
  · rw [ltTime]; exact swo_before.irrefl _
  · rw [ltTime] at *; exact swo_before.trans _ _ _ h1 h2
  · rw [ltTime] at *; exact swo_before.ntrans _ _ _ h1 h2
theorem cmpAt_time : CmpAt Try.prog 32 #[] stE byTime := fun w x y => orderCmp_any x y w
theorem insOK_st (g off cap s : Nat) (hs : s < 4611686018427387904) : InsOKSt Try.prog 13 stE byTime (.func (.func 32) #[] #[]) g off cap s := fun a b A B d w hA hB hH hg hab hb hd => by
  have h := ins_sm swo_byTime d a b hab hb
  subst hA hB hd
  refine (AnyQ.insertionSortCmpFunc Try.insSt 13 Try.isAgg30 Try.sizeOf30 stE stE_len one_stE byTime 32 #[] g off cap a b d w
    (enters_of Try.func32 (by kernel_rfl) rfl) (fun m os dk _ x y => orderCmp_any x y _) hH hg hab hb (by omega)).mono ?_
  rintro e w' ⟨rfl, m, os, rfl⟩
  exact ⟨rfl, _, holdsK_sortWorldK_c stE 13 w g off d _ m os hH hg h.1.size, h.1, h.2, ex_sortWorldK stE 13 w g off m _ os⟩

set_option maxHeartbeats 1000000 in
theorem insNil (w : World) (F : Value) : Calls Try.prog 61 #[.slice none 0 0, .int .i64 0, .int .i64 0, F] w fun e w' => e = .returned (.tuple #[]) ∧ w = w' := by
  go_enter Try.func61, Try.ntmps61
  go_wp2
  go_loop [8] (fun i => i = .int .i64 1) (fun _ => 0)
  case atStart => rfl
  case round =>
    subst hrel
    go_wp2
    go_end0
    exact ⟨rfl, rfl⟩
set_option maxHeartbeats 1000000 in
theorem stableNil (w : World) (F : Value) : Calls Try.prog 48 #[.slice none 0 0, .int .i64 0, F] w fun e w' => e = .returned (.tuple #[]) ∧ w = w' := by
  go_enter Try.func48, Try.ntmps48
  go_wp2
  go_loop [7, 8] (fun a b => a = .int .i64 0 ∧ b = .int .i64 20) (fun _ _ => 0)
  case atStart => exact ⟨rfl, rfl⟩
  case round =>
    obtain ⟨rfl, rfl⟩ := hrel
    go_wp2_with (go_at_call 61; refine (insNil _ _).mono ?_; rintro e w' ⟨rfl, rfl⟩)
    go_loop [6] (fun a => a = .int .i64 20) (fun _ => 0)
    case atStart => rfl
    case round =>
      subst hrel
      go_wp2
      go_end0
      exact ⟨rfl, rfl⟩
set_option maxHeartbeats 1000000 in
theorem sortNil (w : World) (F : Value) : Calls Try.prog 31 #[.slice none 0 0, F] w fun e w' => e = .returned (.tuple #[]) ∧ w = w' := by
  go_enter Try.func31, Try.ntmps31
  go_wp2_with (go_at_call 48; refine (stableNil _ _).mono ?_; rintro e w' ⟨rfl, rfl⟩)
  go_end0
  exact ⟨rfl, rfl⟩

/-- Sorting a slice of statements that the call owns. -/
theorem sortSt_any {w : World} {base : Nat} {ro : Option Addr} {rc : Nat} {l : List St} (hown : OwnS w base ro rc l) (hm : l.length ≤ 100000) :
    Calls Try.prog 31 #[.slice ro l.length rc, .func (.func 32) #[] #[]] w fun e w' => e = .returned (.tuple #[]) ∧ Sl stRep (fun b => base ≤ b) w' (.slice ro l.length rc) (orderI beforeB l) ∧ Ex base none w w' := by
  obtain ⟨xs, rfl, h1, h2⟩ := hown
  rcases h1.cases with ⟨rfl, rfl, h0⟩ | ⟨g, rfl, hb, hlt, hc⟩
  · subst h0
    refine (sortNil w _).mono ?_
    rintro e w' ⟨rfl, rfl⟩
    exact ⟨rfl, ⟨none, 0, rfl, SlAt.nil _ _ _⟩, Ex.refl _ _ _⟩
  · have hl : (xs.map (·.1)).length = xs.length := by simp
    rw [hl] at hm ⊢
    refine (sortStableSt_all laySt stE stE_len one_stE byTime swo_byTime 32 #[] (enters_of Try.func32 (by kernel_rfl) rfl) cmpAt_time g 0 rc xs.length (by omega) (insOK_st _ _ _ _ (by omega)) xs.toArray w (h1.holds stE_len) hlt (by simp) Try.func31).mono ?_
    rintro e w' ⟨rfl, d', hH, hst, hex⟩
    have ho := stab_order (fun x y => ltTime) hst
    refine ⟨rfl, ⟨some ⟨g, 0, none⟩, rc, by rw [orderI_len, hl], ?_⟩, ⟨hex.os, hex.tape, hex.output, hex.size, fun k hk _ => hex.block k (by omega) (fun e => by cases e; omega)⟩⟩
    have := st_sl (P := fun b => base ≤ b) (xs := d'.toList) hb (by simpa using hH) (fun x hx => by
      have hx' : x ∈ xs := by simpa using (hst.2.2.1.mem_iff).1 hx
      refine Lies.mono (P := fun b => base ≤ b ∧ rowOf (some ⟨g, 0, none⟩) ≠ some b) ((h2 x hx').keep fun b hb hlt => hex.block b hlt (fun e => hb.2 (by cases e; rfl))) (fun b hb _ => hb.1))
    rw [ho] at this
    simpa using this

set_option maxHeartbeats 1000000 in
theorem order_any {P : Nat → Prop} (v : Value) (l : List St) (w : World) (hv : Sl stRep P w v l) (hm : l.length ≤ 100000) (hl : LightL 1000000 l) :
    Calls Try.prog 15 #[v] w fun e w' => ∃ ro rc, e = .returned (.slice ro l.length rc) ∧ Sl stRep (fun b => w.heap.size ≤ b) w' (.slice ro l.length rc) (orderI beforeB l) ∧ Ex w.heap.size none w w' := by
  have HV := Lib.hid hv
  have HL := Lib.hid hl
  clear hv hl
  have HF : Hid (l.filter (fun _ => true) = l) := (show _ = _ by simp)
  have EF := Lib.hid (enters_of (P := Try.prog) (f := 30) Try.func30 (by kernel_rfl) rfl)
  go_enter Try.func15, Try.ntmps15
  go_wp2_with fail
  refine (only_any v l 30 #[] (fun _ => true) _ HV.out hm HL.out EF.out ?_).mono ?_
  · intro w1 s lo po ln lc pn pc hx
    exact allTest_any (s, ⟨lo, ln, lc⟩, ⟨po, pn, pc⟩) w1
  rw [HF.out]
  rintro e w1 ⟨ro, rc, rfl, hown, hex⟩
  have HO := Lib.hid hown
  have HX := Lib.hid hex
  clear hown hex
  go_wp2_with fail
  refine (sortSt_any HO.out hm).mono ?_
  rintro e w2 ⟨rfl, hsl, hex2⟩
  have HS := Lib.hid hsl
  have HX2 := Lib.hid hex2
  clear hsl hex2
  go_wp2
  go_ret
  exact ⟨ro, rc, rfl, HS.out, HX.out.trans HX2.out (Nat.le_refl _) (by simp)⟩

theorem field_time (v0 v1 v2 v3 v4 v5 v6 v7 v8 v9 v10 v11 v12 : Value) (w : World) : (Instr.field 30 (.agg #[v0, v1, v2, v3, v4, v5, v6, v7, v8, v9, v10, v11, v12]) 3).run Try.prog w = .ok v3 w := by
  simp [Instr.field, run_underlying Try.underlying30, part, asAgg, Try.isAgg3, Try.sizeOf3]
set_option maxHeartbeats 1000000 in
set_option maxRecDepth 100000 in
theorem latest_any {P : Nat → Prop} (v : Value) (l : List St) (w : World) (hv : Sl stRep P w v l) (hm : l.length ≤ 100000) :
    Calls Try.prog 17 #[v] w fun e w' => e = .returned (.int .i64 (latestI l)) ∧ Ex w.heap.size none w w' := by
  have HV := Lib.hid hv
  obtain ⟨ao, cap, rfl, _⟩ := hv
  by_cases h0 : l.length = 0
  · have HL : Hid (latestI l = -1) := (show _ = _ by rw [List.eq_nil_of_length_eq_zero h0]; rfl)
    go_enter Try.func17, Try.ntmps17
    go_wp2
    go_ret
    exact ⟨by rw [HL.out]; rfl, Ex.refl _ _ _⟩
  · have h1 : 1 ≤ l.length := by omega
    have hd : decide ((l.length : Int) = 0) = false := decide_eq_false (by omega)
    have hd2 : (((l.length : Int)) == 0) = false := by simpa using h0
    clear h0
    go_enter Try.func17, Try.ntmps17
    go_wp2_with fail
    refine (maxSt_any _ l _ HV.out hm h1).mono ?_
    rintro e w1 ⟨s, lo, po, ln, lc, pn, pc, rfl, ht, hex⟩
    have hft := fun w => field_time (.int .i64 s.author) (.int .i64 s.number) (.string s.prev) (.int .i64 s.time) (.int .i64 s.kind) (.int .i64 s.a) (.int .i64 s.b) (.int .i64 s.c) (.slice lo ln lc) (.slice po pn pc) (.string s.body) (.int .i64 s.key) (.string s.dig) w
    have HT := Lib.hid ht
    have HX := Lib.hid hex
    clear ht hex
    go_wp2
    go_ret
    exact ⟨by rw [← HT.out]; rfl, HX.out⟩
end Go.Proofs.Ytdmchekkcmjafaa

namespace Go.Proofs.Ytdmchekkcmjafaa
open Go.RowKit Go.Sort

def st0 (a t : Int) : St := ⟨a, 0, ⟨#[]⟩, t, 0, 0, 0, 0, [], [], ⟨#[]⟩, 0, ⟨#[]⟩⟩
def awakeL : List St := [st0 2 5, st0 0 9, st0 1 5]
theorem of_a (w : World) : Calls Try.prog 8 #[.int .i64 10, .int .i64 5] w fun e w' => e = .returned (.int .i64 2) ∧ w = w' := of_any 10 5 w (by omega)
theorem of_b (w : World) : Calls Try.prog 8 #[.int .i64 (-1), .int .i64 5] w fun e w' => e = .returned (.int .i64 (-1)) ∧ w = w' := of_any (-1) 5 w (by omega)
theorem lit_awake {w : World} {t : TypeId} {cs : Array Value} (h : cs.toList = flatL stE (awakeL.map fun s => (s, ⟨none, 0, 0⟩, ⟨none, 0, 0⟩))) : SlAt stRep (fun _ => True) (w.alloc (.cells cs t)) (some ⟨w.heap.size, 0, none⟩) awakeL := by
  have := st_sl (P := fun _ => True) (w := w.alloc (.cells cs t)) (g := w.heap.size) (xs := awakeL.map fun s => (s, ⟨none, 0, 0⟩, ⟨none, 0, 0⟩)) trivial
    (holdsK_flat stE_len (fun j v hv => by rw [Nat.zero_add, cell_of_row _ _ _ _ _ _ (heap_alloc_new w _)]; rw [← h] at hv; simpa using hv) (fun j _ => by rw [Nat.zero_add]; unfold World.frozen?; rw [heap_alloc_new]; simp))
    (fun x hx => by
      simp only [List.mem_map] at hx
      obtain ⟨s, hs, rfl⟩ := hx
      have : s.list = [] ∧ s.pins = [] := by
        simp only [awakeL, List.mem_cons, List.not_mem_nil, or_false] at hs
        rcases hs with rfl | rfl | rfl <;> exact ⟨rfl, rfl⟩
      exact ⟨⟨none, 0, by rw [this.1]; rfl, by rw [this.1]; exact SlAt.nil _ _ _⟩, ⟨none, 0, by rw [this.2]; rfl, by rw [this.2]; exact SlAt.nil _ _ _⟩⟩)
  simpa [Function.comp_def] using this
theorem light_awake : LightL 1000000 awakeL := fun s hs => by
  simp only [awakeL, List.mem_cons, List.not_mem_nil, or_false] at hs
  rcases hs with rfl | rfl | rfl <;> exact ⟨by decide, by decide⟩

set_option maxHeartbeats 4000000 in
set_option maxRecDepth 100000 in
theorem awake09_any (w : World) : Calls Try.prog 7 #[] w fun e w' => e = .returned (.bool true) ∧ Ex w.heap.size none w w' := by
  go_enter Try.func7, Try.ntmps7
  go_wp2_with fail
  obtain ⟨w0, hw0⟩ : ∃ w0 : World, w0 = w.alloc (.cells #[.int .i64 2, .int .i64 0, .string ⟨#[]⟩, .int .i64 5, .int .i64 0, .int .i64 0, .int .i64 0, .int .i64 0, .slice none 0 0, .slice none 0 0, .string ⟨#[]⟩, .int .i64 0, .string ⟨#[]⟩, .int .i64 0, .int .i64 0, .string ⟨#[]⟩, .int .i64 9, .int .i64 0, .int .i64 0, .int .i64 0, .int .i64 0, .slice none 0 0, .slice none 0 0, .string ⟨#[]⟩, .int .i64 0, .string ⟨#[]⟩, .int .i64 1, .int .i64 0, .string ⟨#[]⟩, .int .i64 5, .int .i64 0, .int .i64 0, .int .i64 0, .int .i64 0, .slice none 0 0, .slice none 0 0, .string ⟨#[]⟩, .int .i64 0, .string ⟨#[]⟩] 30) := ⟨_, rfl⟩
  have HE0 : Hid (Ex w.heap.size none w w0) := by rw [hw0]; exact Ex.new w _
  have HL0 : Hid (SlAt stRep (fun _ => True) w0 (some ⟨w.heap.size, 0, none⟩) awakeL) := by rw [hw0]; exact lit_awake (w := w) (t := 30) rfl
  have HS0 : Hid (w.heap.size ≤ w0.heap.size) := HE0.out.size
  rw [← hw0]
  clear hw0
  refine (order_any _ awakeL _ ⟨_, _, rfl, HL0.out⟩ (by decide) light_awake).mono ?_
  rintro e w2 ⟨ro, rc, rfl, hsl, hex⟩
  obtain ⟨ro', rc', e1, hsa⟩ := hsl
  cases e1
  have HE1 : Hid (Ex w.heap.size none w w2) := HE0.out.trans hex HS0.out (by simp)
  obtain ⟨g, og, s, ⟨lo, ln, lc⟩, ⟨po, pn, pc⟩, rfl, _, _, hr, HX⟩ := st_get hsa 0 (by decide)
  have hs1 : s.author = 1 := by
    have h1 : (orderI beforeB awakeL)[0]? = some (st0 1 5) := by rfl
    rw [HX.out] at h1
    cases h1; rfl
  have HQ : Hid (∀ p : ExW w2, p.w'.cell? ⟨g, og, none⟩ = some (.int .i64 1)) := fun p => by
    have := (ExW.st_at hr p).1
    rw [Nat.zero_mul, Nat.add_zero] at this
    rw [this, ← hs1]
  have HL2 : Hid (SlAt stRep (fun _ => True) w2 (some ⟨w.heap.size, 0, none⟩) awakeL) := HL0.out.keep (by decide) (fun b _ hb => hex.block b hb (by simp))
  have hc0 := HQ.out ⟨w2, Ex.refl _ _ _⟩
  clear hsa hr hs1 hex
  have hl3 : awakeL.length = 3 := rfl
  rw [hl3]
  clear hl3
  go_wp2_with fail
  refine (of_a _).mono ?_
  rintro e w' ⟨rfl, rfl⟩
  go_wp2_with fail
  refine (of_b _).mono ?_
  rintro e w' ⟨rfl, rfl⟩
  go_wp2_with fail
  refine (until_any _ awakeL 5 _ ⟨_, _, rfl, HL2.out⟩ (by decide) light_awake).mono ?_
  rintro e wa ⟨ro, rc, rfl, hown, hexa⟩
  have HA : Hid (Ex w2.heap.size none w2 wa) := hexa
  have hza : w2.heap.size ≤ wa.heap.size := HA.out.size
  have hn : (awakeL.filter (fun s => decide (s.time ≤ 5))).length = 2 := rfl
  rw [hn]
  clear hown hexa hn
  go_wp2_with fail
  refine (window_any _ awakeL 6 9 _ ⟨_, _, rfl, HL2.out.keep (by decide) (fun b _ hb => HA.out.block b hb (by simp))⟩ (by decide) light_awake).mono ?_
  rintro e wb ⟨ro, rc, rfl, hown, hexb⟩
  have HB : Hid (Ex w2.heap.size none w2 wb) := HA.out.trans hexb hza (by simp)
  have hzb : w2.heap.size ≤ wb.heap.size := HB.out.size
  have hn : (awakeL.filter (fun s => decide (6 ≤ s.time) && decide (s.time ≤ 9))).length = 1 := rfl
  rw [hn]
  clear hown hexb hn hc0
  have hc0 := HQ.out ⟨_, HB.out⟩
  simp only at hc0
  go_wp2_with fail
  refine (latest_any _ awakeL _ ⟨_, _, rfl, HL2.out.keep (by decide) (fun b _ hb => HB.out.block b hb (by simp))⟩ (by decide)).mono ?_
  rintro e wc ⟨rfl, hexc⟩
  have HC : Hid (Ex w2.heap.size none w2 wc) := HB.out.trans hexc hzb (by simp)
  have hn : latestI awakeL = 9 := rfl
  rw [hn]
  clear hexc hn hc0
  go_wp2
  go_ret
  exact ⟨rfl, HE1.out.trans HC.out HE1.out.size (by simp)⟩
end Go.Proofs.Ytdmchekkcmjafaa

/- ref03.in, key, PinsOK, numbers, Check: contracts, no statement of the seat. | ref03.PinsOK: a contract, no statement of the seat. | Empty and not empty texts: facts for walks. No statement of the seat. | lists.Only at statements: a contract, no statement of the seat. | store.part: the statements of an author, without copying them. No statement of the seat. -/
import Derived.Test.YtdifcnhhcinonaaGreatMg02
import Derived.Test.YtdifcnhhcinonaaGreatOnlyG
import Derived.Outline
import Derived.BigQuiet
import Derived.IntWalk
import Derived.Test.YtdifcnhhcinonaaGreatMg01
import Derived.Deep.Cut
namespace Go.Proofs.YtdifcnhhcinonaaGreat
open Go.RowKit Go.Sort

def inB (x most : Int) : Bool := decide (0 ≤ x) && decide (x ≤ most)
def keyB (x : Int) : Bool := decide (0 ≤ x) && decide (x < 64)
theorem inB_iff {x m : Int} : inB x m = true ↔ 0 ≤ x ∧ x ≤ m := by simp [inB]
theorem keyB_iff {x : Int} : keyB x = true ↔ 0 ≤ x ∧ x < 64 := by simp [keyB]
/-- A pin among pins. -/
def pinAt (l : List PinD) (i : Nat) : Bool :=
  match l[i]? with
  | none => true
  | some p => keyB p.1 && (decide (i = 0) || decide ((l[i - 1]?.getD p).1 < p.1)) && decide (1 ≤ p.2.1) && decide (p.2.1 ≤ 200) && decide (p.2.2.size = 32)
def pinsTo (l : List PinD) (k : Nat) : Bool := (List.range k).all (pinAt l)
def pinsB (l : List PinD) : Bool := pinsTo l l.length
theorem pinsTo_succ (l : List PinD) (k : Nat) : pinsTo l (k + 1) = (pinsTo l k && pinAt l k) := by simp [pinsTo, List.range_succ]
theorem pinsTo_no {l : List PinD} {k : Nat} (hk : k < l.length) (h : pinAt l k = false) : pinsB l = false := by
  unfold pinsB pinsTo
  rw [List.all_eq_false]
  exact ⟨k, by simpa using hk, by simp [h]⟩
def M40 : Int := 1099511627776
def kindB (s : St) : Bool :=
  if s.kind = 1 then keyB s.a && decide (s.a ≠ s.author) && decide (1 ≤ s.b) && decide (s.b ≤ 3) && decide (s.time ≤ s.c) && decide (s.c ≤ 2147483648)
  else if s.kind = 2 then inB s.a 199 && decide (s.b = 0) && decide (s.c = 0)
  else if s.kind = 3 then decide (s.a = 0) && decide (s.b = 0) && decide (s.c = 0)
  else true
def numB (s : St) : Bool := inB s.number 199 && inB s.a M40 && inB s.b M40 && inB s.c M40 && s.list.all (fun x => inB x M40) && kindB s
def checkI (s : St) : Int :=
  if keyB s.author = false then 4
  else if s.kind < 1 ∨ (3 < s.kind ∧ s.kind < 10) ∨ 31 < s.kind then 5
  else if inB s.time 2147483648 = false then 9
  else if numB s = false then 2
  else if 64 < s.list.length ∨ 64 < s.pins.length ∨ 4096 < s.body.size then 3
  else if (s.number = 0 ∧ s.prev ≠ ⟨#[]⟩) ∨ (0 < s.number ∧ s.prev.size ≠ 32) ∨ pinsB s.pins = false then 1
  else if s.kind ≤ 3 ∧ (0 < s.list.length ∨ 0 < s.pins.length ∨ s.body ≠ ⟨#[]⟩) then 1
  else 0

end Go.Proofs.YtdifcnhhcinonaaGreat

namespace Go.Proofs.YtdifcnhhcinonaaGreat
open Go.RowKit Go.Sort

/-- A pin of a slice: its cells. -/
theorem pin_get {P : Nat → Prop} {w : World} {ao : Option Addr} {xs : List PinD} (h : SlAt pinRep P w ao xs) (i : Nat) (hi : i < xs.length) : ∃ b off p, ao = some ⟨b, off, none⟩ ∧ P b ∧ b < w.heap.size ∧ w.cell? ⟨b, off + i * 3, none⟩ = some (.int .i64 p.1) ∧ w.cell? ⟨b, off + i * 3 + 1, none⟩ = some (.int .i64 p.2.1) ∧ w.cell? ⟨b, off + i * 3 + 2, none⟩ = some (.string p.2.2) ∧ Hid (xs[i]? = some p) := by
  obtain ⟨b, off, cs, e, hp, hr, hR⟩ := h i hi
  have hcs : cs = pinE xs[i] := hR
  subst hcs
  exact ⟨b, off, xs[i], e, hp, rangeAt_lt hr (by rw [pinE_len]; omega), hr 0 _ rfl, hr 1 _ rfl, hr 2 _ rfl, (show _ = _ by simp [hi])⟩

end Go.Proofs.YtdifcnhhcinonaaGreat

namespace Go.Proofs.YtdifcnhhcinonaaGreat
open Go.RowKit Go.Sort

theorem emptyS_list : (⟨#[]⟩ : ByteArray).toList = [] := by rw [ByteArray.toList_eq]
theorem emptyS_facts {a : ByteArray} (h : a = ⟨#[]⟩) : (a.toList == (⟨#[]⟩ : ByteArray).toList) = true ∧ (a.toList == []) = true ∧ a.toList.isEmpty = true := by
  subst h
  rw [emptyS_list]; exact ⟨rfl, rfl, rfl⟩
theorem nonemptyS_facts {a : ByteArray} (h : ¬ a = ⟨#[]⟩) : (a.toList == (⟨#[]⟩ : ByteArray).toList) = false ∧ (a.toList == []) = false ∧ a.toList.isEmpty = false := by
  have h1 := (bytes_nbeq h).2
  have h2 : (a.toList == []) = false := by rwa [emptyS_list] at h1
  refine ⟨h1, h2, ?_⟩
  cases hl : a.toList with
  | nil => rw [hl] at h2; cases h2
  | cons x r => rfl
end Go.Proofs.YtdifcnhhcinonaaGreat

namespace Go.Proofs.YtdifcnhhcinonaaGreat
open Go.RowKit Go.Sort

set_option maxHeartbeats 8000000 in
set_option maxRecDepth 100000 in
theorem onlySt_any {P : Nat → Prop} (v : Value) (l : List St) (f : Nat) (cb : Array Value) (p : St → Bool) (w : World) (hv : Sl stRep P w v l) (hm : l.length ≤ 100000)
    (ef : ∀ args w, (callFunc f args).run Tryz.prog w = .ok (.enter f args) w) (ht : TestAt f cb w p) :
    Calls Tryz.prog 173 #[v, .func (.func f) #[] cb] w fun e w' => ∃ u, e = .returned u ∧ Sl stRep (fun b => P b ∨ w.heap.size ≤ b) w' u (l.filter p) ∧ Ex w.heap.size none w w' := by
  obtain ⟨ao, cap, rfl, hx⟩ := hv
  have HX := Lib.hid hx
  have HT := Lib.hid ht
  clear hx ht
  go_enter Tryz.func173, Tryz.ntmps173
  go_wp2
  go_loopw [5, 10] (fun v i wr => ∃ (k n : Nat) (ro : Option Addr) (rc : Nat) (acc : List (St × Sv × Sv)), k ≤ l.length ∧ i = .int .i64 k ∧ v = .slice ro n rc ∧ Hid (acc.map (·.1) = (l.take k).filter p ∧ acc.length = n ∧ n ≤ k ∧ ∀ x ∈ acc, Lies P w x) ∧ OwnE stE 13 28 wr w.heap.size ro rc acc ∧ Ex w.heap.size none w wr) (fun _ i _ => l.length - (intOf i).toNat)
  case atStart => exact ⟨0, 0, none, 0, [], by omega, rfl, rfl, Lib.hid ⟨by simp, rfl, by omega, fun x hx => by cases hx⟩, OwnE.nil _ _ _ _ _, Ex.refl _ _ _⟩
  case round =>
    obtain ⟨k, n, ro, rc, acc, hk, rfl, rfl, HA, hown, hex⟩ := hrel
    have hsz := hex.size
    have HEX := Lib.hid hex
    have HO := Lib.hid hown
    have hnk : n ≤ k := HA.out.2.2.1
    have HAL : Hid (acc.length = n) := Lib.hid HA.out.2.1
    clear hown
    by_cases hlt : k < l.length
    · obtain ⟨b, off, s, ⟨lo, ln, lc⟩, ⟨po, pn, pc⟩, rfl, _, hls0, hr, HXs⟩ := st_get HX.out k hlt
      have hc := st_at (rangeAt_keep hr (hex.block b (rangeAt_lt hr (by rw [stE_len]; omega)) (by simp)))
      simp only [Sv.v] at hc
      obtain ⟨c0, c1, c2, c3, c4, c5, c6, c7, c8, c9, c10, c11, c12⟩ := hc
      have HLS0 := Lib.hid hls0
      clear hls0 hr hex
      cases hp : p s with
      | false =>
        have HK : Hid ((l.take (k + 1)).filter p = ((l.take k).filter p)) := Lib.hid (filter_no HXs.out hp)
        go_wp2_with fail
        refine (HT.out _ s lo po ln lc pn pc (HEX.out.trans (Ex.new wr _) hsz (by simp))).mono ?_
        rw [hp]
        clear hp
        rintro e w2 ⟨rfl, hex2⟩
        have HE2 : Hid (Ex wr.heap.size none wr w2) := Lib.hid ((Ex.new wr _).trans (hex2.mono (by simp)) (Nat.le_refl _) (by simp))
        have HB2 : Hid (w2.heap[wr.heap.size]? = some (.cells #[.int .i64 s.author, .int .i64 s.number, .string s.prev, .int .i64 s.time, .int .i64 s.kind, .int .i64 s.a, .int .i64 s.b, .int .i64 s.c, .slice lo ln lc, .slice po pn pc, .string s.body, .int .i64 s.key, .string s.dig] 28 (0, 0))) := Lib.hid ((hex2.block wr.heap.size (by simp) (by simp)).trans (heap_alloc_new wr _))
        have hz2 : wr.heap.size ≤ w2.heap.size := HE2.out.size
        clear hex2
        go_wp2
        go_roundw
        case rel => exact ⟨k + 1, n, ro, rc, acc, by omega, by go_num, rfl, Lib.hid ⟨by rw [HK.out]; exact HA.out.1, HA.out.2.1, by omega, HA.out.2.2.2⟩, HO.out.keep HE2.out (Nat.le_refl _) (by simp), HEX.out.trans HE2.out hsz (by simp)⟩
        case measure => simp [intOf] <;> omega
      | true =>
        have HK : Hid ((l.take (k + 1)).filter p = ((l.take k).filter p ++ [s])) := Lib.hid (filter_yes HXs.out hp)
        go_wp2_with fail
        refine (HT.out _ s lo po ln lc pn pc (HEX.out.trans (Ex.new wr _) hsz (by simp))).mono ?_
        rw [hp]
        clear hp
        rintro e w2 ⟨rfl, hex2⟩
        have HE2 : Hid (Ex wr.heap.size none wr w2) := Lib.hid ((Ex.new wr _).trans (hex2.mono (by simp)) (Nat.le_refl _) (by simp))
        have HB2 : Hid (w2.heap[wr.heap.size]? = some (.cells #[.int .i64 s.author, .int .i64 s.number, .string s.prev, .int .i64 s.time, .int .i64 s.kind, .int .i64 s.a, .int .i64 s.b, .int .i64 s.c, .slice lo ln lc, .slice po pn pc, .string s.body, .int .i64 s.key, .string s.dig] 28 (0, 0))) := Lib.hid ((hex2.block wr.heap.size (by simp) (by simp)).trans (heap_alloc_new wr _))
        have hz2 : wr.heap.size ≤ w2.heap.size := HE2.out.size
        clear hex2
        obtain ⟨⟨d0, d1, d2, d3, d4, d5, d6, d7, d8, d9, d10, d11, d12⟩, fz⟩ := st_block HB2.out
        go_wp2_with (at_builtin; refine wpList_appE2 rfl (.tmp 17) (.tmp 19) _ 28 (by rfl) Tryz.underlying22 _ 13 160 Tryz.infoSt rfl (by decide) (by decide) stE stE_len one_stE w.heap.size ro rc n acc HAL.out (by rfl) (some ⟨w2.heap.size, 0, none⟩) 1 1 (by rfl) [(s, ⟨lo, ln, lc⟩, ⟨po, pn, pc⟩)] rfl ((HO.out.keep HE2.out (Nat.le_refl _) (by simp)).keep (Ex.new w2 _) (Nat.le_refl _) (by simp)) (lit_cells (by rfl)) (by omega) (by simp; omega) (n + 1) rfl ?_; intro ro2 rc2 w6 hown6 hex6 _ _)
        have HO6 := Lib.hid hown6
        have HE6 : Hid (Ex w.heap.size none w w6) := Lib.hid (((HEX.out.trans HE2.out hsz (by simp)).trans (Ex.new w2 _) (by omega) (by simp)).trans hex6 (Nat.le_refl _) (by simp))
        clear hown6 hex6
        go_roundw
        case rel => exact ⟨k + 1, n + 1, ro2, rc2, acc ++ [(s, ⟨lo, ln, lc⟩, ⟨po, pn, pc⟩)], by omega, by go_num, rfl, Lib.hid ⟨by rw [HK.out, List.map_append, HA.out.1]; rfl, by rw [List.length_append, HAL.out]; rfl, by omega, fun x hx => by
          rcases List.mem_append.1 hx with h | h
          · exact HA.out.2.2.2 x h
          · rw [List.mem_singleton.1 h]; exact HLS0.out⟩, HO6.out, HE6.out⟩
        case measure => simp [intOf] <;> omega
    · obtain rfl : k = l.length := by omega
      have HF : Hid (acc.map (·.1) = l.filter p) := Lib.hid (by have := HA.out.1; rwa [List.take_length] at this)
      have HFL : Hid ((l.filter p).length = n) := Lib.hid (by rw [← HF.out, List.length_map]; exact HAL.out)
      clear hex
      go_wp2
      go_ret
      refine ⟨.slice ro n rc, by rfl, ⟨ro, rc, by rw [HFL.out], ?_⟩, HEX.out⟩
      rw [← HF.out]
      rcases HO.out.cases with ⟨_, _, e3⟩ | ⟨g, rfl, hg1, hg2, hg3⟩
      · subst e3; exact SlAt.nil _ _ _
      · exact st_sl (.inr hg1) (HO.out.holds stE_len) fun x hx => ((HA.out.2.2.2 x hx).keep fun b _ hb => HEX.out.block b hb (by simp)).mono fun b hb _ => .inl hb
end Go.Proofs.YtdifcnhhcinonaaGreat

namespace Go.Proofs.YtdifcnhhcinonaaGreat
open Go.RowKit Go.Sort

set_option maxHeartbeats 2000000 in
set_option maxRecDepth 100000 in
theorem partTest_any (g : Nat) (a : Int) (w0 : World) (hg : w0.heap[g]? = some (.cells #[.int .i64 a] 3 (0, 0))) : TestAt 174 #[.pointer (some ⟨g, 0, none⟩)] w0 (fun s => s.author == a) := by
  intro w s lo po ln lc pn pc hex
  have hgl : g < w0.heap.size := (Array.getElem?_eq_some_iff.1 hg).1
  have hz := hex.size
  have hc : w.cell? ⟨g, 0, none⟩ = some (.int .i64 a) := by rw [cell_of_row _ _ _ _ _ _ ((hex.block g hgl (by simp)).trans hg)]; rfl
  have hc2 : (w.alloc (.cells #[.int .i64 s.author, .int .i64 s.number, .string s.prev, .int .i64 s.time, .int .i64 s.kind, .int .i64 s.a, .int .i64 s.b, .int .i64 s.c, .slice lo ln lc, .slice po pn pc, .string s.body, .int .i64 s.key, .string s.dig] 28)).cell? ⟨g, 0, none⟩ = some (.int .i64 a) := (World.cell?_of_block (w := w) (a := ⟨g, 0, none⟩) ((Ex.new w _).block g (by omega) (by simp))).trans hc
  clear hex hg
  go_enter Tryz.func174, Tryz.ntmps174
  go_wp2
  go_ret
  exact ⟨rfl, Ex.new _ _⟩
set_option maxHeartbeats 2000000 in
set_option maxRecDepth 100000 in
theorem part_any {P : Nat → Prop} (ao : Option Addr) (cap : Nat) (l : List St) (a : Int) (w : World) (hx : SlAt stRep P w ao l) (hm : l.length ≤ 100000) :
    Calls Tryz.prog 120 #[.agg #[.slice ao l.length cap], .int .i64 a] w fun e w' => ∃ u, e = .returned u ∧ Sl stRep (fun b => P b ∨ w.heap.size ≤ b) w' u (l.filter fun s => s.author == a) ∧ Ex w.heap.size none w w' := by
  obtain ⟨n, hn⟩ : ∃ n, n = l.length := ⟨_, rfl⟩
  have HX := Lib.hid hx
  have HN := Lib.hid hn
  rw [← hn]
  clear hx hn
  have hmf : ∀ (fn : Fn) (first cap : Array Value) (w : World), (Instr.makeFunc fn first cap).run Tryz.prog w = .ok (.func fn first cap) w := fun _ _ _ _ => rfl
  obtain ⟨w0, hw0⟩ : ∃ w0 : World, w0 = (w.alloc (.cells #[.slice ao n cap] 31)).alloc (.cells #[.int .i64 a] 3) := ⟨_, rfl⟩
  have hz0 : w0.heap.size = w.heap.size + 2 := by rw [hw0]; simp
  have HE0 : Hid (Ex w.heap.size none w w0) := Lib.hid (by rw [hw0]; exact ex_two0 _ _)
  have HB0 : Hid (w0.heap[w.heap.size]? = some (.cells #[.slice ao n cap] 31 (0, 0)) ∧ w0.heap[w.heap.size + 1]? = some (.cells #[.int .i64 a] 3 (0, 0))) := Lib.hid (by rw [hw0]; exact ⟨heap_alloc2_old _ _ _, heap_alloc2_new _ _ _⟩)
  have d0 : w0.cell? ⟨w.heap.size, 0, none⟩ = some (.slice ao n cap) := by rw [cell_of_row _ _ _ _ _ _ HB0.out.1]; rfl
  go_enter Tryz.func120, Tryz.ntmps120
  go_upto_region 1 with (fail)
  rw [← hw0]
  clear hw0
  go_wp2_with (first
    | (go_at_call 173
       refine (onlySt_any (.slice ao n cap) l 174 #[.pointer (some ⟨w.heap.size + 1, 0, none⟩)] (fun s => s.author == a) w0 ⟨ao, cap, by rw [HN.out], HX.out.keep (by decide) fun b _ hb => HE0.out.block b hb (by simp)⟩ hm (enters_of Tryz.func174 (by kernel_rfl) rfl) (partTest_any _ a w0 HB0.out.2)).mono ?_
       rintro e w1 ⟨u, rfl, hu, hex⟩)
    | fail)
  go_ret
  exact ⟨_, rfl, hu.mono (by decide) (fun b hb _ => by rcases hb with h | h; exact .inl h; exact .inr (by omega)), HE0.out.trans hex (by omega) (by simp)⟩
end Go.Proofs.YtdifcnhhcinonaaGreat

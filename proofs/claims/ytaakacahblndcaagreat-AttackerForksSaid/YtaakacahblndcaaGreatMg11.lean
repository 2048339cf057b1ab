/- chain.links: a contract, no statement of the seat. | Links in memory, one by one; a row of cells stored as one step of a region. No statement of the seat. | store.Add: a contract, no statement of the seat. | attacker.row's order, and the library's MinFunc by it at statements. No statement of the seat. | Links as values that the walk does not open; chain.follows and chain.copied in these words. No statement of the seat. | chain.back's iterator: a contract for whatever rounds, and the plain words of chain.Branch. No statement of the seat. | chain.Counted: a contract, no statement of the seat. -/
import Derived.Test.YtaakacahblndcaaGreatMg07
import Derived.Test.YtaakacahblndcaaGreatMg01
import Derived.Test.YtaakacahblndcaaGreatCheckPG
import Derived.Test.YtaakacahblndcaaGreatMg09
import Derived.Test.YtaakacahblndcaaGreatMg06
import Derived.Great.BuildSlice
import Derived.Test.YtaakacahblndcaaGreatMg00
import Derived.Test.YtaakacahblndcaaGreatMg10
import Derived.Laws.ResultCell
import Derived.Deep.RegionHeld3
import Derived.Lib.Bytealg
import Derived.Test.YtaakacahblndcaaGreatMg02
import Derived.StringKeys
import Derived.Maps.OwnIn
import Derived.RangeFuncNested
import Derived.RangeFuncBound
import Derived.RangeFuncCalls
import Derived.RangeFuncLeaves
import Derived.Shelf.Abstract
import Derived.Shelf.RegionOpen
import Derived.OwnWalkIn
import Derived.TacticsInMore
import Derived.LoopNIn
import Derived.LoopIn
import Derived.Test.YtaakacahblndcaaGreatMg04
import Derived.Deep.Cut
import Derived.Deep.CutRange
namespace Go.Proofs.YtaakacahblndcaaGreat
open Go.RowKit Go.Sort

/-- A statement of the author's that is right. -/
def okB (a : Int) (s : St) : Bool := decide (s.author = a) && decide (checkI s = 0) && sealedB s
theorem okB_iff {a : Int} {s : St} : okB a s = true ↔ s.author = a ∧ checkI s = 0 ∧ sealedB s = true := by
  simp only [okB, Bool.and_eq_true, decide_eq_true_eq, and_assoc]
/-- How links are held: a statement, its digest behind it. -/
def linkRep : Rep St where
  k := 14
  R := fun P w cs s => ∃ l p, cs = linkE (s, l, p) ∧ Lies P w (s, l, p)
  len := fun ⟨l, p, h, _⟩ => by subst h; exact linkE_len _
  one := fun ⟨l, p, h, _⟩ => by subst h; exact one_linkE _
  keep := fun ⟨l, p, h, hs⟩ hx => ⟨l, p, h, hs.keep hx⟩
  mono := fun ⟨l, p, h, hs⟩ hx => ⟨l, p, h, hs.mono hx⟩
def sameDigS (s t : St) : Bool := s.dig.toList == t.dig.toList
/-- What stays of a row of which neighbours with one digest are dropped. -/
def cptL (d : List St) : List St := cpt sameDigS d.toArray d.length
/-- ls: the right statements of an author, sorted by number and digest, neighbours with one digest dropped. -/
def LinksR (a : Int) (l ls : List St) : Prop := ∃ d : List St, d.Perm (l.filter (okB a)) ∧ (∀ (i j : Nat) (x y : St), i < j → d[i]? = some x → d[j]? = some y → ltNDs y x = false) ∧ ls = cptL d
theorem link_sl {P : Nat → Prop} {w : World} {g : Nat} {xs : List (St × Sv × Sv)} (hP : P g) (h : HoldsK linkE 14 w g 0 xs.toArray) (hl : ∀ x ∈ xs, Lies P w x) : SlAt linkRep P w (some ⟨g, 0, none⟩) (xs.map (·.1)) := fun i hi => by
  have hi' : i < xs.length := by simpa using hi
  refine ⟨g, 0, linkE xs[i], rfl, hP, ?_, xs[i].2.1, xs[i].2.2, by simp, by simpa using hl _ (List.getElem_mem hi')⟩
  have := holdsK_range linkE_len h i (by simpa using hi')
  rwa [getElem!_pos xs.toArray i hi', List.getElem_toArray] at this
theorem linksR_of {a : Int} {l : List St} {acc : List (St × Sv × Sv)} {d' : Array (St × Sv × Sv)} (h : acc.map (·.1) = l.filter (okB a)) (hp : d'.toList.Perm acc) (hs : SortedIn (ltOf cmpND) 0 d'.size d') (n : Nat) (hn : d'.size = n) : LinksR a l ((cpt sameDig d' n).map (·.1)) := by
  subst hn
  refine ⟨d'.toList.map (·.1), by rw [← h]; exact hp.map _, fun i j x y hij hi hj => ?_, ?_⟩
  · have hj' : j < d'.size := by have := (List.getElem?_eq_some_iff.1 hj).1; simpa using this
    have hi' : i < d'.size := by omega
    have k := hs i j (Nat.zero_le _) hij hj'
    rw [ltND_of, getElem!_pos d' i hi', getElem!_pos d' j hj'] at k
    simp only [List.getElem?_map, Array.getElem?_toList, Array.getElem?_eq_getElem hi', Array.getElem?_eq_getElem hj', Option.map_some, Option.some.injEq] at hi hj
    rw [← hi, ← hj]; exact k
  · rw [cpt_map (fun x : St × Sv × Sv => x.1) (eq := sameDig) (eq' := sameDigS) (fun _ _ => rfl) d' d'.size (Nat.le_refl _)]
    rw [show d'.map (fun x : St × Sv × Sv => x.1) = (d'.toList.map (fun x => x.1)).toArray by apply Array.ext'; simp]
    simp only [cptL, List.length_map, Array.length_toList]
theorem LinksR.ok {a : Int} {l ls : List St} (h : LinksR a l ls) : ∀ s ∈ ls, okB a s = true := fun s hs => by
  obtain ⟨d, hp, _, rfl⟩ := h
  have h1 : s ∈ d := by simpa using cpt_mem d.length (by simp) hs
  exact (List.mem_filter.1 (hp.mem_iff.1 h1)).2
theorem Tryz.infoLink : (Tryz.prog.info? 169).map (fun i => (i.zero, i.size, i.bytes)) = some (some (.agg #[.int .i64 0, .int .i64 0, .string ⟨#[]⟩, .int .i64 0, .int .i64 0, .int .i64 0, .int .i64 0, .int .i64 0, .slice none 0 0, .slice none 0 0, .string ⟨#[]⟩, .int .i64 0, .string ⟨#[]⟩, .string ⟨#[]⟩]), 14, 176) := by kernel_rfl

set_option maxHeartbeats 16000000 in
set_option maxRecDepth 100000 in
theorem links_any {P : Nat → Prop} (v : Value) (l : List St) (a : Int) (w : World) (hv : Sl stRep P w v l) (hm : l.length ≤ 100000) (hL : LightL 9223372036854775807 l) :
    Calls Tryz.prog 138 #[.int .i64 a, v] w fun e w' => ∃ u ls, e = .returned u ∧ LinksR a l ls ∧ Sl linkRep (fun b => P b ∨ w.heap.size ≤ b) w' u ls ∧ ls.length ≤ l.length ∧ Ex w.heap.size none w w' := by
  obtain ⟨ao, cap, rfl, hx⟩ := hv
  have HX := Lib.hid hx
  have HLL := Lib.hid hL
  clear hx hL
  go_enter Tryz.func138, Tryz.ntmps138
  go_wp2
  go_loopw [5, 10] (fun v i wr => ∃ (k n : Nat) (ro : Option Addr) (rc : Nat) (acc : List (St × Sv × Sv)), k ≤ l.length ∧ i = .int .i64 k ∧ v = .slice ro n rc ∧ Hid (acc.map (·.1) = (l.take k).filter (okB a) ∧ acc.length = n ∧ n ≤ k ∧ ∀ x ∈ acc, Lies P w x) ∧ OwnE linkE 14 169 wr w.heap.size ro rc acc ∧ Ex w.heap.size none w wr) (fun _ i _ => l.length - (intOf i).toNat)
  case atStart => exact ⟨0, 0, none, 0, [], by omega, rfl, rfl, Lib.hid ⟨by simp, rfl, by omega, fun x hx => by cases hx⟩, OwnE.nil _ _ _ _ _, Ex.refl _ _ _⟩
  case round =>
    obtain ⟨k, n, ro, rc, acc, hk, rfl, rfl, HA, hown, hex⟩ := hrel
    have hsz := hex.size
    have HEX := Lib.hid hex
    have HO := Lib.hid hown
    clear hown
    by_cases hlt : k < l.length
    · have hltI : (k : Int) < (l.length : Int) := by omega
      have hnk : n ≤ k := HA.out.2.2.1
      obtain ⟨b, off, s, ⟨lo, ln, lc⟩, ⟨po, pn, pc⟩, rfl, _, hls0, hr, HXs⟩ := st_get HX.out k hlt
      have HLG : Hid (s.list.length ≤ 9223372036854775807 ∧ s.pins.length ≤ 9223372036854775807) := Lib.hid (HLL.out s (List.mem_of_getElem? HXs.out))
      have HLN : Hid (ln = s.list.length) := by obtain ⟨⟨_, _, e, _⟩, _⟩ := hls0; simp only [Sv.v] at e; cases e; exact rfl
      have HPN : Hid (pn = s.pins.length) := by obtain ⟨_, ⟨_, _, e, _⟩⟩ := hls0; simp only [Sv.v] at e; cases e; exact rfl
      have hc := st_at (rangeAt_keep hr (hex.block b (rangeAt_lt hr (by rw [stE_len]; omega)) (by simp)))
      simp only [Sv.v] at hc
      obtain ⟨c0, c1, c2, c3, c4, c5, c6, c7, c8, c9, c10, c11, c12⟩ := hc
      have HLS0 := Lib.hid hls0
      clear hls0 hr hex
      go_upto_region 5 with (fail)
      obtain ⟨ws, hws⟩ : ∃ ws : World, ws = wr.alloc (.cells #[.int .i64 s.author, .int .i64 s.number, .string s.prev, .int .i64 s.time, .int .i64 s.kind, .int .i64 s.a, .int .i64 s.b, .int .i64 s.c, .slice lo ln lc, .slice po pn pc, .string s.body, .int .i64 s.key, .string s.dig] 37) := ⟨_, rfl⟩
      have HEs : Hid (Ex wr.heap.size none wr ws) := Lib.hid (by rw [hws]; exact Ex.new wr _)
      have hzs : ws.heap.size = wr.heap.size + 1 := by rw [hws]; simp
      have HBs : Hid (ws.heap[wr.heap.size]? = some (.cells #[.int .i64 s.author, .int .i64 s.number, .string s.prev, .int .i64 s.time, .int .i64 s.kind, .int .i64 s.a, .int .i64 s.b, .int .i64 s.c, .slice lo ln lc, .slice po pn pc, .string s.body, .int .i64 s.key, .string s.dig] 37 (0, 0))) := Lib.hid (by rw [hws]; exact heap_alloc_new wr _)
      have HQ : Hid (∀ w', Ex ws.heap.size none ws w' → w'.cell? ⟨wr.heap.size, 0, none⟩ = some (.int .i64 s.author) ∧ w'.cell? ⟨wr.heap.size, 1, none⟩ = some (.int .i64 s.number) ∧ w'.cell? ⟨wr.heap.size, 2, none⟩ = some (.string s.prev) ∧ w'.cell? ⟨wr.heap.size, 3, none⟩ = some (.int .i64 s.time) ∧ w'.cell? ⟨wr.heap.size, 4, none⟩ = some (.int .i64 s.kind) ∧ w'.cell? ⟨wr.heap.size, 5, none⟩ = some (.int .i64 s.a) ∧ w'.cell? ⟨wr.heap.size, 6, none⟩ = some (.int .i64 s.b) ∧ w'.cell? ⟨wr.heap.size, 7, none⟩ = some (.int .i64 s.c) ∧ w'.cell? ⟨wr.heap.size, 8, none⟩ = some (.slice lo ln lc) ∧ w'.cell? ⟨wr.heap.size, 9, none⟩ = some (.slice po pn pc) ∧ w'.cell? ⟨wr.heap.size, 10, none⟩ = some (.string s.body) ∧ w'.cell? ⟨wr.heap.size, 11, none⟩ = some (.int .i64 s.key) ∧ w'.cell? ⟨wr.heap.size, 12, none⟩ = some (.string s.dig)) := Lib.hid (fun w' h => (st_block ((h.block wr.heap.size (by omega) (by simp)).trans HBs.out)).1)
      have HLS : Hid (∀ w', Ex ws.heap.size none ws w' → Lies P w' (s, ⟨lo, ln, lc⟩, ⟨po, pn, pc⟩)) := Lib.hid (fun w' h => HLS0.out.keep fun b _ hb => (h.block b (by omega) (by simp)).trans ((HEs.out.block b (by omega) (by simp)).trans (HEX.out.block b hb (by simp))))
      obtain ⟨q, hq0⟩ : ∃ q, q = checkI s := ⟨_, rfl⟩
      have HCQ : Hid (checkI s = q) := Lib.hid hq0.symm
      have HCK : Hid (∀ w', Ex ws.heap.size none ws w' → Calls Tryz.prog 39 #[.agg #[.int .i64 s.author, .int .i64 s.number, .string s.prev, .int .i64 s.time, .int .i64 s.kind, .int .i64 s.a, .int .i64 s.b, .int .i64 s.c, .slice lo ln lc, .slice po pn pc, .string s.body, .int .i64 s.key, .string s.dig]] w' fun e w'' => e = .returned (.int .i64 q) ∧ Ex w'.heap.size none w' w'') := Lib.hid (fun w' h => by rw [hq0]; exact checkP_any s lo po ln lc pn pc w' (HLS.out w' h) (by rw [HLN.out, HPN.out]; exact HLG.out))
      clear hq0
      rw [← hws]
      clear hws c0 c1 c2 c3 c4 c5 c6 c7 c8 c9 c10 c11 c12
      obtain ⟨d0, d1, d2, d3, d4, d5, d6, d7, d8, d9, d10, d11, d12⟩ := HQ.out _ (Ex.refl _ _ ws)
      by_cases t1 : s.author = a
      case neg =>
        have k1 : (s.author == a) = false := by simpa using t1
        have HNO : Hid (okB a s = false) := Lib.hid (by simp [okB, t1])
        clear t1
        go_wp2_with (fail)
        go_roundw
        case rel => exact ⟨k + 1, n, ro, rc, acc, by omega, by go_num, rfl, Lib.hid ⟨by rw [filter_no HXs.out HNO.out]; exact HA.out.1, HA.out.2.1, by have := HA.out.2.2.1; omega, HA.out.2.2.2⟩, HO.out.keep (HEs.out.trans (Ex.refl ws.heap.size none ws) (by omega) (by simp)) (Nat.le_refl _) (by simp), HEX.out.trans (HEs.out.trans (Ex.refl ws.heap.size none ws) (by omega) (by simp)) hsz (by simp)⟩
        case measure => simp [intOf] <;> omega
      have k1 : (s.author == a) = true := by simpa using t1
      have HT1 := Lib.hid t1
      clear t1
      by_cases t2 : q = 0
      case neg =>
        have k2 : (q == 0) = false := by simpa using t2
        have HNO : Hid (okB a s = false) := Lib.hid (by simp [okB, HCQ.out, t2])
        clear t2
        go_wp2_with (first
          | (go_at_call 39
             refine (HCK.out _ (Ex.refl _ _ ws)).mono ?_
             rintro e w7 ⟨rfl, hex7⟩
             have HE7 : Hid (Ex ws.heap.size none ws w7) := Lib.hid hex7
             have hz7 : ws.heap.size ≤ w7.heap.size := hex7.size
             clear hex7 d0 d1 d2 d3 d4 d5 d6 d7 d8 d9 d10 d11 d12
             obtain ⟨d0, d1, d2, d3, d4, d5, d6, d7, d8, d9, d10, d11, d12⟩ := HQ.out _ HE7.out)
          | fail)
        go_roundw
        case rel => exact ⟨k + 1, n, ro, rc, acc, by omega, by go_num, rfl, Lib.hid ⟨by rw [filter_no HXs.out HNO.out]; exact HA.out.1, HA.out.2.1, by have := HA.out.2.2.1; omega, HA.out.2.2.2⟩, HO.out.keep (HEs.out.trans HE7.out (by omega) (by simp)) (Nat.le_refl _) (by simp), HEX.out.trans (HEs.out.trans HE7.out (by omega) (by simp)) hsz (by simp)⟩
        case measure => simp [intOf] <;> omega
      have k2 : (q == 0) = true := by simpa using t2
      have HT2 : Hid (checkI s = 0) := Lib.hid (HCQ.out.trans t2)
      have HTM := Lib.hid (checkI_tame HT2.out)
      clear t2
      cases t3 : sealedB s with
      | false =>
        have HNO : Hid (okB a s = false) := Lib.hid (by simp [okB, t3])
        have HSL : Hid (∀ w', Ex ws.heap.size none ws w' → Calls Tryz.prog 54 #[.agg #[.int .i64 s.author, .int .i64 s.number, .string s.prev, .int .i64 s.time, .int .i64 s.kind, .int .i64 s.a, .int .i64 s.b, .int .i64 s.c, .slice lo ln lc, .slice po pn pc, .string s.body, .int .i64 s.key, .string s.dig]] w' fun e w'' => e = .returned (.bool false) ∧ Ex w'.heap.size none w' w'') := Lib.hid (fun w' h => asB (sealedP_any s lo po ln lc pn pc w' (HLS.out w' h) HTM.out) t3)
        clear t3
        go_wp2_with (first
          | (go_at_call 39
             refine (HCK.out _ (Ex.refl _ _ ws)).mono ?_
             rintro e w7 ⟨rfl, hex7⟩
             have HE7 : Hid (Ex ws.heap.size none ws w7) := Lib.hid hex7
             have hz7 : ws.heap.size ≤ w7.heap.size := hex7.size
             clear hex7 d0 d1 d2 d3 d4 d5 d6 d7 d8 d9 d10 d11 d12
             obtain ⟨d0, d1, d2, d3, d4, d5, d6, d7, d8, d9, d10, d11, d12⟩ := HQ.out _ HE7.out)
          | (go_at_call 54
             refine (HSL.out _ HE7.out).mono ?_
             rintro e w8 ⟨rfl, hex8⟩
             have HE8 : Hid (Ex ws.heap.size none ws w8) := Lib.hid (HE7.out.trans hex8 hz7 (by simp))
             have hz8 : ws.heap.size ≤ w8.heap.size := HE8.out.size
             clear hex8 d0 d1 d2 d3 d4 d5 d6 d7 d8 d9 d10 d11 d12
             obtain ⟨d0, d1, d2, d3, d4, d5, d6, d7, d8, d9, d10, d11, d12⟩ := HQ.out _ HE8.out)
          | fail)
        go_roundw
        case rel => exact ⟨k + 1, n, ro, rc, acc, by omega, by go_num, rfl, Lib.hid ⟨by rw [filter_no HXs.out HNO.out]; exact HA.out.1, HA.out.2.1, by have := HA.out.2.2.1; omega, HA.out.2.2.2⟩, HO.out.keep (HEs.out.trans HE8.out (by omega) (by simp)) (Nat.le_refl _) (by simp), HEX.out.trans (HEs.out.trans HE8.out (by omega) (by simp)) hsz (by simp)⟩
        case measure => simp [intOf] <;> omega
      | true =>
        have HYES : Hid (okB a s = true) := Lib.hid (okB_iff.2 ⟨HT1.out, HT2.out, t3⟩)
        have HSL : Hid (∀ w', Ex ws.heap.size none ws w' → Calls Tryz.prog 54 #[.agg #[.int .i64 s.author, .int .i64 s.number, .string s.prev, .int .i64 s.time, .int .i64 s.kind, .int .i64 s.a, .int .i64 s.b, .int .i64 s.c, .slice lo ln lc, .slice po pn pc, .string s.body, .int .i64 s.key, .string s.dig]] w' fun e w'' => e = .returned (.bool true) ∧ Ex w'.heap.size none w' w'') := Lib.hid (fun w' h => asB (sealedP_any s lo po ln lc pn pc w' (HLS.out w' h) HTM.out) t3)
        clear t3
        have HAL : Hid (acc.length = n) := Lib.hid HA.out.2.1
        go_wp2_with (first
          | (go_at_call 39
             refine (HCK.out _ (Ex.refl _ _ ws)).mono ?_
             rintro e w7 ⟨rfl, hex7⟩
             have HE7 : Hid (Ex ws.heap.size none ws w7) := Lib.hid hex7
             have hz7 : ws.heap.size ≤ w7.heap.size := hex7.size
             clear hex7 d0 d1 d2 d3 d4 d5 d6 d7 d8 d9 d10 d11 d12
             obtain ⟨d0, d1, d2, d3, d4, d5, d6, d7, d8, d9, d10, d11, d12⟩ := HQ.out _ HE7.out)
          | (go_at_call 54
             refine (HSL.out _ HE7.out).mono ?_
             rintro e w8 ⟨rfl, hex8⟩
             have HE8 : Hid (Ex ws.heap.size none ws w8) := Lib.hid (HE7.out.trans hex8 hz7 (by simp))
             have hz8 : ws.heap.size ≤ w8.heap.size := HE8.out.size
             clear hex8 d0 d1 d2 d3 d4 d5 d6 d7 d8 d9 d10 d11 d12
             obtain ⟨d0, d1, d2, d3, d4, d5, d6, d7, d8, d9, d10, d11, d12⟩ := HQ.out _ HE8.out)
          | (at_builtin; refine wpList_appE2 rfl (.tmp 27) (.tmp 33) _ 169 (by rfl) Tryz.underlying166 _ 14 176 Tryz.infoLink rfl (by decide) (by decide) linkE linkE_len one_linkE w.heap.size ro rc n acc HAL.out (by rfl) (some ⟨w8.heap.size, 0, none⟩) 1 1 (by rfl) [(s, ⟨lo, ln, lc⟩, ⟨po, pn, pc⟩)] rfl ((HO.out.keep (HEs.out.trans HE8.out (by omega) (by simp)) (Nat.le_refl _) (by simp)).keep (Ex.new w8 _) (Nat.le_refl _) (by simp)) (lit_cells (by rfl)) (by omega) (by simp; omega) (n + 1) rfl ?_; intro ro2 rc2 w6 hown6 hex6 _ _)
          | fail)
        have HO6 := Lib.hid hown6
        have HE6 : Hid (Ex w.heap.size none w w6) := Lib.hid (((HEX.out.trans (HEs.out.trans HE8.out (by omega) (by simp)) hsz (by simp)).trans (Ex.new w8 _) (by omega) (by simp)).trans hex6 (Nat.le_refl _) (by simp))
        clear hown6 hex6
        go_roundw
        case rel => exact ⟨k + 1, n + 1, ro2, rc2, acc ++ [(s, ⟨lo, ln, lc⟩, ⟨po, pn, pc⟩)], by omega, by go_num, rfl, Lib.hid ⟨by rw [filter_yes HXs.out HYES.out, List.map_append, HA.out.1]; rfl, by rw [List.length_append, HAL.out]; rfl, by omega, fun x hx => by
          rcases List.mem_append.1 hx with h | h
          · exact HA.out.2.2.2 x h
          · rw [List.mem_singleton.1 h]; exact HLS0.out⟩, HO6.out, HE6.out⟩
        case measure => simp [intOf] <;> omega
    · obtain rfl : k = l.length := by omega
      have hnk : n ≤ l.length := HA.out.2.2.1
      have HF : Hid (acc.map (·.1) = l.filter (okB a)) := Lib.hid (by have := HA.out.1; rwa [List.take_length] at this)
      have HAL : Hid (acc.length = n) := Lib.hid HA.out.2.1
      clear hex
      rcases HO.out.cases with ⟨e1, e2, e3⟩ | ⟨g, e1, hg1, hg2, hg3⟩
      · subst e1 e2
        have hn0 : n = 0 := by rw [← HAL.out, e3]; rfl
        have HLR : Hid (LinksR a l []) := Lib.hid (by
          have h := HF.out
          rw [e3] at h
          exact ⟨[], by rw [← h]; exact List.Perm.refl _, fun i j x y _ h => by simp at h, rfl⟩)
        clear e3
        subst hn0
        go_wp2_with (first
          | (go_at_call 178; refine (sortLink_none _ _ _ _).mono ?_; rintro e w' ⟨rfl, rfl⟩)
          | (go_at_call 180; refine (compactLink_none _ _ _ _).mono ?_; rintro e w' ⟨rfl, rfl⟩)
          | fail)
        go_ret
        exact ⟨_, [], rfl, HLR.out, Sl.nil _ _, by simp, HEX.out⟩
      · subst e1
        have HH : Hid (HoldsK linkE 14 wr g 0 acc.toArray) := Lib.hid (HO.out.holds linkE_len)
        have hcap : n ≤ rc := by rw [← HAL.out]; exact hg3
        have HSZ : Hid (acc.toArray.size = n) := Lib.hid (by simpa using HAL.out)
        go_wp2_with (first
          | (go_at_call 178
             refine (sortLink_any g 0 rc n acc.toArray wr HH.out hg2 HSZ.out (by omega)).mono ?_
             rintro e w1 ⟨rfl, d', hH1, hd1, hp1, hs1, hex1⟩
             have HD : Hid (HoldsK linkE 14 w1 g 0 d' ∧ d'.size = n ∧ d'.toList.Perm acc ∧ SortedIn (ltOf cmpND) 0 d'.size d' ∧ Ex wr.heap.size (some g) wr w1) := Lib.hid ⟨hH1, hd1, by simpa using hp1, hs1, hex1⟩
             have hz1 : wr.heap.size ≤ w1.heap.size := hex1.size
             clear hH1 hd1 hp1 hs1 hex1)
          | (go_at_call 180
             refine (compactLinks_any g rc n d' w1 HD.out.1 (by omega) HD.out.2.1 (by omega) hcap).mono ?_
             rintro e w2 ⟨rfl, hH2, hex2⟩
             have HC : Hid (HoldsK linkE 14 w2 g 0 (cpt sameDig d' n).toArray ∧ Ex w1.heap.size (some g) w1 w2) := Lib.hid ⟨hH2, hex2⟩
             clear hH2 hex2)
          | fail)
        go_ret
        have hE : Ex w.heap.size none w w2 := HEX.out.trans (HD.out.2.2.2.2.trans HC.out.2 hz1 (fun q h _ => h)) hsz (fun q h hq => by cases h; omega)
        refine ⟨.slice (some ⟨g, 0, none⟩) (cpt sameDig d' n).length rc, (cpt sameDig d' n).map (·.1), by rfl, linksR_of HF.out HD.out.2.2.1 HD.out.2.2.2.1 n HD.out.2.1, ⟨some ⟨g, 0, none⟩, rc, by rw [List.length_map], link_sl (.inr hg1) HC.out.1 fun x hx => ?_⟩, ?_, hE⟩
        · have hmem : x ∈ acc := HD.out.2.2.1.mem_iff.1 (cpt_mem n (by rw [HD.out.2.1]; exact Nat.le_refl _) hx)
          exact (HA.out.2.2.2 x hmem).keep (fun b _ hb => hE.block b hb (by simp)) |>.mono fun _ hb _ => .inl hb
        · have := cpt_le sameDig d' n
          rw [List.length_map]; omega
end Go.Proofs.YtaakacahblndcaaGreat

namespace Go.Proofs.YtaakacahblndcaaGreat
open Go.RowKit Go.Sort

theorem link_get {P : Nat → Prop} {w : World} {ao : Option Addr} {xs : List St} (h : SlAt linkRep P w ao xs) (i : Nat) (hi : i < xs.length) : ∃ b off s l p, ao = some ⟨b, off, none⟩ ∧ P b ∧ Lies P w (s, l, p) ∧ w.rangeAt b (off + i * 14) (linkE (s, l, p)) ∧ Hid (xs[i]? = some s) := by
  obtain ⟨b, off, cs, s, e, hp, hr, ⟨l, p, rfl, hl⟩, hx⟩ := h.get i hi
  exact ⟨b, off, s, l, p, e, hp, hl, hr, hx⟩
theorem rowStore_fork (a : Addr) (v : Value) : storeVar 51 a v = rowStore 51 a v := rfl
theorem Tryz.sizeFork : (Tryz.prog.info? 51).map (·.size) = some 26 := by kernel_rfl
/-- The first two neighbours with one number. -/
def forkF : List St → Option (St × St)
  | s :: t :: r => if s.number = t.number then some (s, t) else forkF (t :: r)
  | _ => none
/-- The cells of a fork: of none: all nought. -/
def ForkC (w : World) (base : Nat) (cs : Array Value) : Option (St × St) → Prop
  | none => cs = #[.int .i64 0, .int .i64 0, .string ⟨#[]⟩, .int .i64 0, .int .i64 0, .int .i64 0, .int .i64 0, .int .i64 0, .slice none 0 0, .slice none 0 0, .string ⟨#[]⟩, .int .i64 0, .string ⟨#[]⟩, .int .i64 0, .int .i64 0, .string ⟨#[]⟩, .int .i64 0, .int .i64 0, .int .i64 0, .int .i64 0, .int .i64 0, .slice none 0 0, .slice none 0 0, .string ⟨#[]⟩, .int .i64 0, .string ⟨#[]⟩]
  | some (s, t) => ∃ (la : Option Addr) (na ca : Nat) (pa : Option Addr) (np cp : Nat) (lb : Option Addr) (nb cb : Nat) (pb : Option Addr) (nq cq : Nat), cs = #[.int .i64 s.author, .int .i64 s.number, .string s.prev, .int .i64 s.time, .int .i64 s.kind, .int .i64 s.a, .int .i64 s.b, .int .i64 s.c, .slice la na ca, .slice pa np cp, .string s.body, .int .i64 s.key, .string s.dig, .int .i64 t.author, .int .i64 t.number, .string t.prev, .int .i64 t.time, .int .i64 t.kind, .int .i64 t.a, .int .i64 t.b, .int .i64 t.c, .slice lb nb cb, .slice pb nq cq, .string t.body, .int .i64 t.key, .string t.dig] ∧ Lies (fun b => base ≤ b) w (s, ⟨la, na, ca⟩, ⟨pa, np, cp⟩) ∧ Lies (fun b => base ≤ b) w (t, ⟨lb, nb, cb⟩, ⟨pb, nq, cq⟩)
end Go.Proofs.YtaakacahblndcaaGreat

namespace Go.Proofs.YtaakacahblndcaaGreat
open Go.RowKit Go.Sort
attribute [local go_sem ↓] rowLoad_stv rowStore_stv rowBuild_stv

/-- What store.Add answers: the statements, whether there is one more, the error. -/
def AddR (l : List St) (x : St) (l' : List St) (b : Bool) (c : Int) : Prop :=
  (validB l = false ∧ l' = l ∧ b = false ∧ c = 1) ∨ (validB l = true ∧ checkI x ≠ 0 ∧ l' = l ∧ b = false ∧ c = checkI x) ∨ (validB l = true ∧ checkI x = 0 ∧ sealedB x = false ∧ l' = l ∧ b = false ∧ c = 6) ∨
  (validB l = true ∧ checkI x = 0 ∧ sealedB x = true ∧ ∃ k there, SearchR l x k there ∧ ((1000 < (putA l x k there).length ∧ l' = l ∧ b = false ∧ c = 3) ∨ ((putA l x k there).length ≤ 1000 ∧ l' = putA l x k there ∧ b = !there ∧ c = 0)))
/-- The same, the bool as a value (a word that the walk does not open). -/
def AddV (l : List St) (x : St) (l' : List St) (u : Value) (c : Int) : Prop := ∃ b : Bool, u = .bool b ∧ AddR l x l' b c
theorem validB_light {l : List St} (h : validB l = true) : LightL 1000000 l := fun s hs => by
  have := checkI_tame (validB_mem h s hs).1
  have h1 := this.list
  have h2 := this.pins
  omega

set_option maxHeartbeats 8000000 in
set_option maxRecDepth 100000 in
theorem storeAdd_any {P : Nat → Prop} (ao : Option Addr) (n0 cap : Nat) (l : List St) (x : St × Sv × Sv) (w : World) (hn0 : l.length = n0) (hv : SlAt stRep P w ao l) (hm : n0 ≤ 9223372036854775807) (hL : LightL 9223372036854775807 l) (hx : Lies P w x) (hxm : x.1.list.length ≤ 9223372036854775807 ∧ x.1.pins.length ≤ 9223372036854775807) :
    Calls Tryz.prog 42 #[.agg #[.slice ao n0 cap], stV x] w fun e w' => ∃ v' l' u c, e = .returned (.tuple #[.agg #[v'], u, .int .i64 c]) ∧ AddV l x.1 l' u c ∧ Sl stRep (fun q => P q ∨ w.heap.size ≤ q) w' v' l' ∧ Ex w.heap.size none w w' := by
  have HV := Lib.hid hv
  have HN := Lib.hid hn0
  have HLL := Lib.hid hL
  have HX := Lib.hid hx
  have HXM := Lib.hid hxm
  obtain ⟨ws, hws⟩ : ∃ ws : World, ws = ((w.alloc (.cells #[.slice ao n0 cap] 29)).alloc (.cells (stV x).cells 37)).alloc (.cells #[.slice none 0 0] 29) := ⟨_, rfl⟩
  have HEs : Hid (Ex w.heap.size none w ws) := Lib.hid (by rw [hws]; exact ((Ex.new w _).alloc (by simp) _).alloc (by simp; omega) _)
  have hzs : ws.heap.size = w.heap.size + 1 + 1 + 1 := by rw [hws]; simp
  have HBs : Hid (ws.heap[w.heap.size]? = some (.cells #[.slice ao n0 cap] 29 (0, 0)) ∧ ws.heap[w.heap.size + 1]? = some (.cells (stV x).cells 37 (0, 0)) ∧ ws.heap[w.heap.size + 1 + 1]? = some (.cells #[.slice none 0 0] 29 (0, 0))) := Lib.hid (by
    rw [hws]
    have e1 := heap_alloc_new w (.cells #[.slice ao n0 cap] 29)
    have e2 := heap_alloc_new (w.alloc (.cells #[.slice ao n0 cap] 29)) (.cells (stV x).cells 37)
    have e3 := heap_alloc_new ((w.alloc (.cells #[.slice ao n0 cap] 29)).alloc (.cells (stV x).cells 37)) (.cells #[.slice none 0 0] 29)
    have f1 := (Ex.new (w.alloc (.cells #[.slice ao n0 cap] 29)) (.cells (stV x).cells 37)).block w.heap.size (by simp) (by simp)
    have f2 := fun b hb => (Ex.new ((w.alloc (.cells #[.slice ao n0 cap] 29)).alloc (.cells (stV x).cells 37)) (.cells #[.slice none 0 0] 29)).block b hb (by simp)
    simp only [World.size_alloc] at e2 e3 f2
    exact ⟨(f2 _ (by omega)).trans (f1.trans e1), (f2 _ (by omega)).trans e2, e3⟩)
  have HQ : Hid (∀ w', Ex ws.heap.size none ws w' → w'.cell? ⟨w.heap.size, 0, none⟩ = some (.slice ao n0 cap) ∧ (rowLoad 37 ⟨w.heap.size + 1, 0, none⟩).run Tryz.prog w' = .ok (stV x) w' ∧ w'.cell? ⟨w.heap.size + 1 + 1, 0, none⟩ = some (.slice none 0 0) ∧ w'.frozen? ⟨w.heap.size + 1 + 1, 0, none⟩ = false) := Lib.hid (fun w' h => by
    have k0 := (h.block w.heap.size (by omega) (by simp)).trans HBs.out.1
    have k2 := (h.block (w.heap.size + 1 + 1) (by omega) (by simp)).trans HBs.out.2.2
    exact ⟨box_cell k0, stV_box ((h.block (w.heap.size + 1) (by omega) (by simp)).trans HBs.out.2.1), box_cell k2, by simp [World.frozen?, k2]⟩)
  have HQ2 : Hid (∀ w', Ex ws.heap.size none ws w' → w'.cell? ⟨w.heap.size, 0, none⟩ = some (.slice ao n0 cap) ∧ (rowLoad 37 ⟨w.heap.size + 1, 0, none⟩).run Tryz.prog w' = .ok (stV x) w') := Lib.hid (fun w' h => ⟨(HQ.out w' h).1, (HQ.out w' h).2.1⟩)
  have HQ3 : Hid (∀ w', Ex ws.heap.size none ws w' → ∀ v, (w'.setCell ⟨w.heap.size + 1 + 1, 0, none⟩ v).cell? ⟨w.heap.size, 0, none⟩ = some (.slice ao n0 cap) ∧ (rowLoad 37 ⟨w.heap.size + 1, 0, none⟩).run Tryz.prog (w'.setCell ⟨w.heap.size + 1 + 1, 0, none⟩ v) = .ok (stV x) (w'.setCell ⟨w.heap.size + 1 + 1, 0, none⟩ v)) := Lib.hid (fun w' h v => by
    have k0 := (Below.heap_setCell w' ⟨w.heap.size + 1 + 1, 0, none⟩ v w.heap.size (show w.heap.size ≠ w.heap.size + 1 + 1 by omega)).trans ((h.block w.heap.size (by omega) (by simp)).trans HBs.out.1)
    have k1 := (Below.heap_setCell w' ⟨w.heap.size + 1 + 1, 0, none⟩ v (w.heap.size + 1) (show w.heap.size + 1 ≠ w.heap.size + 1 + 1 by omega)).trans ((h.block (w.heap.size + 1) (by omega) (by simp)).trans HBs.out.2.1)
    exact ⟨box_cell k0, stV_box k1⟩)
  have HSX : Hid (∀ w', Ex ws.heap.size none ws w' → Sl stRep P w' (.slice ao n0 cap) l) := Lib.hid (fun w' h => ⟨ao, cap, by rw [HN.out], HV.out.keep (by decide) fun b _ hb => (h.block b (by omega) (by simp)).trans (HEs.out.block b hb (by simp))⟩)
  have HLX : Hid (∀ w', Ex ws.heap.size none ws w' → Lies P w' x) := Lib.hid (fun w' h => HX.out.keep fun b _ hb => (h.block b (by omega) (by simp)).trans (HEs.out.block b hb (by simp)))
  have HBK : Hid (∀ w', Ex ws.heap.size none ws w' → Sl stRep (fun q => P q ∨ w.heap.size ≤ q) (w'.setCell ⟨w.heap.size + 1 + 1, 0, none⟩ (.slice ao n0 cap)) (.slice ao n0 cap) l) := Lib.hid (fun w' h => ⟨ao, cap, by rw [HN.out], (HV.out.keep (by decide) fun b _ hb => (Below.heap_setCell _ _ _ _ (show b ≠ w.heap.size + 1 + 1 by omega)).trans ((h.block b (by omega) (by simp)).trans (HEs.out.block b hb (by simp)))).mono (by decide) fun b hb _ => .inl hb⟩)
  obtain ⟨q, hq0⟩ : ∃ q, q = checkI x.1 := ⟨_, rfl⟩
  have HCQ : Hid (checkI x.1 = q) := Lib.hid hq0.symm
  have HCK : Hid (∀ w', Ex ws.heap.size none ws w' → Calls Tryz.prog 39 #[stV x] w' fun e w'' => e = .returned (.int .i64 q) ∧ Ex w'.heap.size none w' w'') := Lib.hid (fun w' h => by rw [hq0]; exact check_v x w' (HLX.out w' h) HXM.out)
  clear hq0 hn0 hv hL hx hxm
  go_enter Tryz.func42, Tryz.ntmps42
  go_upto_region 1 with (fail)
  refine wp_world (fun W => W = ws) (by rw [hws]; rfl) (fun W hW => ?_)
  rw [hW]
  clear hW W hws
  obtain ⟨c0, r1, c2, z2⟩ := HQ.out _ (Ex.refl _ _ ws)
  cases hvb : validB l with
  | false =>
    have HVB := Lib.hid hvb
    have HVA : Hid (∀ w', Ex ws.heap.size none ws w' → Calls Tryz.prog 81 #[.agg #[.slice ao n0 cap]] w' fun e w'' => e = .returned (.bool false) ∧ Ex w'.heap.size none w' w'') := Lib.hid (fun w' h => asB (storeValid_any _ l w' (HSX.out w' h) (by rw [HN.out]; exact hm) HLL.out) hvb)
    clear hvb
    go_wp2_with (first
      | (go_at_call 81
         refine (HVA.out _ (Ex.refl _ _ ws)).mono ?_
         rintro e w1 ⟨rfl, hex⟩
         have HE1 : Hid (Ex ws.heap.size none ws w1) := Lib.hid hex
         clear hex
         clear c0 r1 c2 z2
         obtain ⟨c0, r1, c2, z2⟩ := HQ.out _ HE1.out)
      | fail)
    refine bodyPost_ret (v := .tuple #[.agg #[.slice ao n0 cap], .bool false, .int .i64 1]) (by simp [results, Tryz.results42, go_sem, c2]) rfl ?_
    exact ⟨.slice ao n0 cap, l, .bool false, 1, rfl, ⟨_, rfl, .inl ⟨HVB.out, rfl, rfl, rfl⟩⟩, HBK.out _ HE1.out, (HEs.out.trans HE1.out (by omega) (by simp)).setCell _ none _ (.inr (by omega))⟩
  | true =>
    have HVB := Lib.hid hvb
    have HVA : Hid (∀ w', Ex ws.heap.size none ws w' → Calls Tryz.prog 81 #[.agg #[.slice ao n0 cap]] w' fun e w'' => e = .returned (.bool true) ∧ Ex w'.heap.size none w' w'') := Lib.hid (fun w' h => asB (storeValid_any _ l w' (HSX.out w' h) (by rw [HN.out]; exact hm) HLL.out) hvb)
    have hl1 : l.length ≤ 1000 := validB_len hvb
    have hn1 : n0 ≤ 1000 := by rw [← HN.out]; exact hl1
    clear hvb
    by_cases t2 : q = 0
    case neg =>
      have k2 : (q == 0) = false := by simpa using t2
      have k2b : (q != 0) = true := by simpa using t2
      have HT2 := Lib.hid t2
      clear t2
      go_upto_region 4 with (first
        | (go_at_call 81
           refine (HVA.out _ (Ex.refl _ _ ws)).mono ?_
           rintro e w1 ⟨rfl, hex⟩
           have HE1 : Hid (Ex ws.heap.size none ws w1) := Lib.hid hex
           clear hex
           clear c0 r1 c2 z2
           obtain ⟨c0, r1, c2, z2⟩ := HQ.out _ HE1.out)
        | (go_at_call 39
           refine (HCK.out _ HE1.out).mono ?_
           rintro e w2 ⟨rfl, hex⟩
           have HE2 : Hid (Ex ws.heap.size none ws w2) := Lib.hid (HE1.out.trans hex HE1.out.size (by simp))
           clear hex
           clear c0 r1 c2 z2
           obtain ⟨c0, r1, c2, z2⟩ := HQ.out _ HE2.out)
        | fail)
      go_region_held3 (fun w' => w'.cell? ⟨w.heap.size, 0, none⟩ = some (.slice ao n0 cap) ∧ (rowLoad 37 ⟨w.heap.size + 1, 0, none⟩).run Tryz.prog w' = .ok (stV x) w' ) (first | exact HQ2.out _ HE3.out | exact HQ2.out _ HE2.out | exact HQ2.out _ (Ex.drew HE2.out) | exact HQ3.out _ HE3.out _)
        (first
          | (go_at_call 39
             refine (HCK.out _ (by first | exact HE2.out | exact Ex.drew HE2.out)).mono ?_
             rintro e w3 ⟨rfl, hex⟩
             have HE3 : Hid (Ex ws.heap.size none ws w3) := Lib.hid ((by first | exact HE2.out | exact Ex.drew HE2.out : Ex ws.heap.size none ws _).trans hex (by first | exact HE2.out.size | (simp; done) | (simp; exact HE2.out.size)) (by simp))
             clear hex
             clear c0 r1 c2 z2
             obtain ⟨c0, r1, c2, z2⟩ := HQ.out _ HE3.out)
          | fail)
      go_wp2
      refine bodyPost_ret (v := .tuple #[.agg #[.slice ao n0 cap], .bool false, .int .i64 q]) (by simp [results, Tryz.results42, go_sem, c2]) rfl ?_
      exact ⟨.slice ao n0 cap, l, .bool false, q, rfl, ⟨_, rfl, .inr (.inl ⟨HVB.out, by rw [HCQ.out]; exact HT2.out, rfl, rfl, HCQ.out.symm⟩)⟩, HBK.out _ HE3.out, (HEs.out.trans HE3.out (by omega) (by simp)).setCell _ none _ (.inr (by omega))⟩
    have k2 : (q == 0) = true := by simpa using t2
    have k2b : (q != 0) = false := by simpa using t2
    have HT2 : Hid (checkI x.1 = 0) := Lib.hid (HCQ.out.trans t2)
    have HTM := Lib.hid (checkI_tame HT2.out)
    clear t2
    cases t3 : sealedB x.1 with
    | false =>
      have HT3 := Lib.hid t3
      have HSL : Hid (∀ w', Ex ws.heap.size none ws w' → Calls Tryz.prog 54 #[stV x] w' fun e w'' => e = .returned (.bool false) ∧ Ex w'.heap.size none w' w'') := Lib.hid (fun w' h => asB (sealed_v x w' (HLX.out w' h) HTM.out) t3)
      clear t3
      go_wp2_with (first
        | (go_at_call 81
           refine (HVA.out _ (Ex.refl _ _ ws)).mono ?_
           rintro e w1 ⟨rfl, hex⟩
           have HE1 : Hid (Ex ws.heap.size none ws w1) := Lib.hid hex
           clear hex
           clear c0 r1 c2 z2
           obtain ⟨c0, r1, c2, z2⟩ := HQ.out _ HE1.out)
        | (go_at_call 39
           refine (HCK.out _ HE1.out).mono ?_
           rintro e w2 ⟨rfl, hex⟩
           have HE2 : Hid (Ex ws.heap.size none ws w2) := Lib.hid (HE1.out.trans hex HE1.out.size (by simp))
           clear hex
           clear c0 r1 c2 z2
           obtain ⟨c0, r1, c2, z2⟩ := HQ.out _ HE2.out)
        | (go_at_call 54
           refine (HSL.out _ HE2.out).mono ?_
           rintro e w3 ⟨rfl, hex⟩
           have HE3 : Hid (Ex ws.heap.size none ws w3) := Lib.hid (HE2.out.trans hex HE2.out.size (by simp))
           clear hex
           clear c0 r1 c2 z2
           obtain ⟨c0, r1, c2, z2⟩ := HQ.out _ HE3.out)
        | fail)
      refine bodyPost_ret (v := .tuple #[.agg #[.slice ao n0 cap], .bool false, .int .i64 6]) (by simp [results, Tryz.results42, go_sem, c2]) rfl ?_
      exact ⟨.slice ao n0 cap, l, .bool false, 6, rfl, ⟨_, rfl, .inr (.inr (.inl ⟨HVB.out, HT2.out, HT3.out, rfl, rfl, rfl⟩))⟩, HBK.out _ HE3.out, (HEs.out.trans HE3.out (by omega) (by simp)).setCell _ none _ (.inr (by omega))⟩
    | true =>
      have HT3 := Lib.hid t3
      have HSL : Hid (∀ w', Ex ws.heap.size none ws w' → Calls Tryz.prog 54 #[stV x] w' fun e w'' => e = .returned (.bool true) ∧ Ex w'.heap.size none w' w'') := Lib.hid (fun w' h => asB (sealed_v x w' (HLX.out w' h) HTM.out) t3)
      have HTL : Hid (LightL 1000000 l) := Lib.hid (validB_light HVB.out)
      have HRS : Hid (RisingA l) := Lib.hid (validB_rising HVB.out)
      have HXL : Hid (x.1.list.length ≤ 1000000 ∧ x.1.pins.length ≤ 1000000) := Lib.hid (by have h1 := HTM.out.list; have h2 := HTM.out.pins; omega)
      clear t3
      go_upto_region 7 with (first
        | (go_at_call 81
           refine (HVA.out _ (Ex.refl _ _ ws)).mono ?_
           rintro e w1 ⟨rfl, hex⟩
           have HE1 : Hid (Ex ws.heap.size none ws w1) := Lib.hid hex
           clear hex
           clear c0 r1 c2 z2
           obtain ⟨c0, r1, c2, z2⟩ := HQ.out _ HE1.out)
        | (go_at_call 39
           refine (HCK.out _ HE1.out).mono ?_
           rintro e w2 ⟨rfl, hex⟩
           have HE2 : Hid (Ex ws.heap.size none ws w2) := Lib.hid (HE1.out.trans hex HE1.out.size (by simp))
           clear hex
           clear c0 r1 c2 z2
           obtain ⟨c0, r1, c2, z2⟩ := HQ.out _ HE2.out)
        | (go_at_call 54
           refine (HSL.out _ HE2.out).mono ?_
           rintro e w3 ⟨rfl, hex⟩
           have HE3 : Hid (Ex ws.heap.size none ws w3) := Lib.hid (HE2.out.trans hex HE2.out.size (by simp))
           clear hex
           clear c0 r1 c2 z2
           obtain ⟨c0, r1, c2, z2⟩ := HQ.out _ HE3.out)
        | fail)
      go_region_held3 (fun w' => w'.cell? ⟨w.heap.size, 0, none⟩ = some (.slice ao n0 cap) ∧ (rowLoad 37 ⟨w.heap.size + 1, 0, none⟩).run Tryz.prog w' = .ok (stV x) w' ) (first | exact HQ2.out _ HE5.out | exact HQ2.out _ HE4.out.1 | exact HQ2.out _ HE3.out | exact HQ2.out _ (Ex.drew HE3.out))
        (first
          | (go_at_call 83
             refine (shelfCopy_any (P := P) _ l _ (HSX.out _ (by first | exact HE3.out | exact Ex.drew HE3.out)) (by omega) HTL.out).mono ?_
             rintro e w4 ⟨ro, n, rc, rfl, hn, hown, hex⟩
             have HO4 : Hid (OwnS w4 w3.heap.size ro rc l ∧ l.length = n) := Lib.hid ⟨hown, hn.symm⟩
             have HE4 : Hid (Ex ws.heap.size none ws w4 ∧ w3.heap.size ≤ w4.heap.size) := Lib.hid ⟨HE3.out.trans (show Ex w3.heap.size none w3 w4 from by first | exact hex | exact (Ex.refl w3.heap.size none w3).drew.trans hex (Nat.le_refl _) (by simp)) HE3.out.size (by simp), hex.size⟩
             clear hex hown hn
             clear c0 r1 c2 z2
             obtain ⟨c0, r1, c2, z2⟩ := HQ.out _ HE4.out.1)
          | (go_at_call 82
             refine (shelfPut_any (P := P) w3.heap.size ro rc n l x w4 HO4.out.1 HO4.out.2 (by rw [← HO4.out.2]; omega) HE4.out.2 HRS.out (HLX.out _ HE4.out.1) HXL.out).mono ?_
             rintro e w5 ⟨k, b, ro', n', rc', rfl, hsr, hn', hown, hex⟩
             obtain ⟨fr, hfr⟩ : ∃ fr, fr = !b := ⟨_, rfl⟩
             rw [← hfr]
             have HFR := Lib.hid hfr
             clear hfr
             have HO5 : Hid (OwnS w5 w3.heap.size ro' rc' (putA l x.1 k b) ∧ SearchR l x.1 k b ∧ n' = (putA l x.1 k b).length) := Lib.hid ⟨hown, hsr, hn'⟩
             have HE5 : Hid (Ex ws.heap.size none ws w5) := Lib.hid (HE4.out.1.trans (hex.mono (show ws.heap.size ≤ w3.heap.size from HE3.out.size)) (Nat.le_refl _) (by simp))
             clear hex hown hsr hn'
             clear c0 r1 c2 z2
             obtain ⟨c0, r1, c2, z2⟩ := HQ.out _ HE5.out)
          | fail)
      obtain ⟨m, hm0⟩ : ∃ m, m = n' := ⟨_, rfl⟩
      by_cases hbig : 1000 < n'
      · have hbI : (1000 : Int) < (n' : Int) := by omega
        go_wp2
        refine bodyPost_ret (v := .tuple #[.agg #[.slice ao n0 cap], .bool false, .int .i64 3]) (by simp [results, Tryz.results42, go_sem, c2]) rfl ?_
        exact ⟨.slice ao n0 cap, l, .bool false, 3, rfl, ⟨_, rfl, .inr (.inr (.inr ⟨HVB.out, HT2.out, HT3.out, k, b, HO5.out.2.1, .inl ⟨by have := HO5.out.2.2; omega, rfl, rfl, rfl⟩⟩))⟩, HBK.out _ HE5.out, (HEs.out.trans HE5.out (by omega) (by simp)).setCell _ none _ (.inr (by omega))⟩
      · have hbI : ¬ (1000 : Int) < (n' : Int) := by omega
        go_wp2
        refine bodyPost_ret (v := .tuple #[.agg #[.slice ro' n' rc'], .bool fr, .int .i64 0]) (by simp [results, Tryz.results42, go_sem, c2]) rfl ?_
        refine ⟨.slice ro' n' rc', putA l x.1 k b, .bool fr, 0, rfl, ⟨_, rfl, .inr (.inr (.inr ⟨HVB.out, HT2.out, HT3.out, k, b, HO5.out.2.1, .inr ⟨by have := HO5.out.2.2; omega, rfl, HFR.out, rfl⟩⟩))⟩, ?_, (HEs.out.trans HE5.out (by omega) (by simp)).setCell _ none _ (.inr (by omega))⟩
        have hz3 := HE3.out.size
        rw [HO5.out.2.2]
        exact (HO5.out.1.sl.keep (by decide) fun q hq _ => Below.heap_setCell _ _ _ _ (show q ≠ w.heap.size + 1 + 1 by omega)).mono (by decide) fun q hq _ => .inr (by omega)
end Go.Proofs.YtaakacahblndcaaGreat

namespace Go.Proofs.YtaakacahblndcaaGreat
open Go.RowKit Go.Sort
attribute [local go_sem ↓] rowLoad_stv rowStore_stv

/-- strings.Compare. -/
def strC (a b : ByteArray) : Int := Lib.compareBytes a.data.toList b.data.toList
set_option maxRecDepth 100000 in
theorem cmpString_any (a b : ByteArray) (w : World) : Calls Tryz.prog 137 #[.string a, .string b] w fun e w' => e = .returned (.int .i64 (strC a b)) ∧ w = w' := by
  go_enter Tryz.func137, Tryz.ntmps137
  go_wp2
  rw [run_callFunc_extern Tryz.func177 (by kernel_rfl) (by kernel_rfl) (by kernel_rfl) (e := Extern.BytealgCompare.compare) (by kernel_rfl), Lib.run_compareString]
  simp only [Result.andThen]
  rw [Oper.upon_value]
  go_wp2
  go_ret
  exact ⟨rfl, rfl⟩
set_option maxRecDepth 100000 in
theorem strCompare_any (a b : ByteArray) (w : World) : Calls Tryz.prog 93 #[.string a, .string b] w fun e w' => e = .returned (.int .i64 (strC a b)) ∧ w = w' := by
  go_enter Tryz.func93, Tryz.ntmps93
  go_wp2_with (go_at_call 137; refine (cmpString_any _ _ _).mono ?_; rintro e w' ⟨rfl, hw⟩; subst hw)
  go_ret
  exact ⟨rfl, rfl⟩

/-- The order of an attacker's row: the greater number first, then the lesser digest. -/
def cmpRow (s t : St) : Int := (([cmpI t.number s.number, strC (sha (stB s)) (sha (stB t))]).find? (· != 0)).getD 0

set_option maxHeartbeats 4000000 in
set_option maxRecDepth 100000 in
theorem rowCmp_any {P : Nat → Prop} (x y : St × Sv × Sv) (w : World) (hx : Lies P w x) (hy : Lies P w y) (htx : Tame x.1) (hty : Tame y.1) :
    Calls Tryz.prog 90 #[stV x, stV y] w fun e w' => e = .returned (.int .i64 (cmpRow x.1 y.1)) ∧ Ex w.heap.size none w w' := by
  obtain ⟨ws, hws⟩ : ∃ ws : World, ws = (w.alloc (.cells (stV x).cells 37)).alloc (.cells (stV y).cells 37) := ⟨_, rfl⟩
  have HEs : Hid (Ex w.heap.size none w ws) := Lib.hid (by rw [hws]; exact (Ex.new w _).alloc (by simp) _)
  have hzs : ws.heap.size = w.heap.size + 1 + 1 := by rw [hws]; simp
  have HBs : Hid (ws.heap[w.heap.size]? = some (.cells (stV x).cells 37 (0, 0)) ∧ ws.heap[w.heap.size + 1]? = some (.cells (stV y).cells 37 (0, 0))) := Lib.hid (by
    rw [hws]
    have e1 := heap_alloc_new w (.cells (stV x).cells 37)
    have e2 := heap_alloc_new (w.alloc (.cells (stV x).cells 37)) (.cells (stV y).cells 37)
    have f1 := (Ex.new (w.alloc (.cells (stV x).cells 37)) (.cells (stV y).cells 37)).block w.heap.size (by simp) (by simp)
    simp only [World.size_alloc] at e2
    exact ⟨f1.trans e1, e2⟩)
  have HQ : Hid (∀ w', Ex ws.heap.size none ws w' → w'.cell? ⟨w.heap.size, 1, none⟩ = some (.int .i64 x.1.number) ∧ w'.cell? ⟨w.heap.size + 1, 1, none⟩ = some (.int .i64 y.1.number) ∧ (rowLoad 37 ⟨w.heap.size, 0, none⟩).run Tryz.prog w' = .ok (stV x) w' ∧ (rowLoad 37 ⟨w.heap.size + 1, 0, none⟩).run Tryz.prog w' = .ok (stV y) w') := Lib.hid (fun w' h => by
    have k0 := (h.block w.heap.size (by omega) (by simp)).trans HBs.out.1
    have k1 := (h.block (w.heap.size + 1) (by omega) (by simp)).trans HBs.out.2
    exact ⟨by rw [cell_of_row _ _ _ _ _ _ k0]; rfl, by rw [cell_of_row _ _ _ _ _ _ k1]; rfl, stV_box k0, stV_box k1⟩)
  have HLX : Hid (∀ w', Ex ws.heap.size none ws w' → Lies P w' x ∧ Lies P w' y) := Lib.hid (fun w' h => ⟨hx.keep fun b _ hb => (h.block b (by omega) (by simp)).trans (HEs.out.block b hb (by simp)), hy.keep fun b _ hb => (h.block b (by omega) (by simp)).trans (HEs.out.block b hb (by simp))⟩)
  have HT := Lib.hid (And.intro htx hty)
  obtain ⟨ci, hci⟩ : ∃ ci, ci = cmpI y.1.number x.1.number := ⟨_, rfl⟩
  obtain ⟨dx, hdx⟩ : ∃ dx, dx = sha (stB x.1) := ⟨_, rfl⟩
  obtain ⟨dy, hdy⟩ : ∃ dy, dy = sha (stB y.1) := ⟨_, rfl⟩
  obtain ⟨cs, hcs⟩ : ∃ cs, cs = strC dx dy := ⟨_, rfl⟩
  have HRES : Hid (([ci, cs].find? (· != 0)).getD 0 = cmpRow x.1 y.1) := Lib.hid (by rw [hci, hcs, hdx, hdy]; rfl)
  have HCI : Hid (∀ w', Calls Tryz.prog 92 #[.int .i64 y.1.number, .int .i64 x.1.number] w' fun e w'' => e = .returned (.int .i64 ci) ∧ w' = w'') := Lib.hid (fun w' => by rw [hci]; exact compare_any _ _ _)
  have HCS : Hid (∀ w', Calls Tryz.prog 93 #[.string dx, .string dy] w' fun e w'' => e = .returned (.int .i64 cs) ∧ w' = w'') := Lib.hid (fun w' => by rw [hcs]; exact strCompare_any _ _ _)
  have HDX : Hid (∀ w', Ex ws.heap.size none ws w' → Calls Tryz.prog 38 #[stV x] w' fun e w'' => e = .returned (.string dx) ∧ Ex w'.heap.size none w' w'') := Lib.hid (fun w' h => by rw [hdx]; exact digest_v x w' (HLX.out w' h).1 HT.out.1)
  have HDY : Hid (∀ w', Ex ws.heap.size none ws w' → Calls Tryz.prog 38 #[stV y] w' fun e w'' => e = .returned (.string dy) ∧ Ex w'.heap.size none w' w'') := Lib.hid (fun w' h => by rw [hdy]; exact digest_v y w' (HLX.out w' h).2 HT.out.2)
  clear hci hdx hdy hcs hx hy htx hty
  go_enter Tryz.func90, Tryz.ntmps90
  go_upto_region 1 with (fail)
  refine wp_world (fun W => W = ws) (by rw [hws]; rfl) (fun W hW => ?_)
  rw [hW]
  clear hW W hws
  obtain ⟨n0, n1, r0, r1⟩ := HQ.out _ (Ex.refl _ _ ws)
  go_region_held3 (fun w' => w'.cell? ⟨w.heap.size, 1, none⟩ = some (.int .i64 x.1.number) ∧ w'.cell? ⟨w.heap.size + 1, 1, none⟩ = some (.int .i64 y.1.number) ∧ (rowLoad 37 ⟨w.heap.size, 0, none⟩).run Tryz.prog w' = .ok (stV x) w' ∧ (rowLoad 37 ⟨w.heap.size + 1, 0, none⟩).run Tryz.prog w' = .ok (stV y) w')
    (first | exact HQ.out _ HE3.out | exact HQ.out _ HE2.out | exact HQ.out _ (Ex.refl _ _ ws) | exact HQ.out _ (Ex.drew (Ex.refl _ _ ws)) | exact HQ.out _ (HE3.out.alloc HE3.out.size _))
    (first
      | (go_at_call 92; refine (HCI.out _).mono ?_; rintro e w' ⟨rfl, hw'⟩; subst hw')
      | (go_at_call 38
         refine (HDY.out _ HE2.out).mono ?_
         rintro e w3 ⟨rfl, hex⟩
         have HE3 : Hid (Ex ws.heap.size none ws w3) := Lib.hid (HE2.out.trans hex HE2.out.size (by simp))
         clear hex n0 n1 r0 r1
         obtain ⟨n0, n1, r0, r1⟩ := HQ.out _ HE3.out)
      | (go_at_call 38
         refine (HDX.out _ (by first | exact Ex.refl _ _ ws | exact Ex.drew (Ex.refl _ _ ws))).mono ?_
         rintro e w2 ⟨rfl, hex⟩
         have HE2 : Hid (Ex ws.heap.size none ws w2) := Lib.hid ((by first | exact Ex.refl _ _ ws | exact Ex.drew (Ex.refl _ _ ws) : Ex ws.heap.size none ws _).trans hex (by simp) (by simp))
         clear hex n0 n1 r0 r1
         obtain ⟨n0, n1, r0, r1⟩ := HQ.out _ HE2.out)
      | (go_at_call 93; refine (HCS.out _).mono ?_; rintro e w' ⟨rfl, hw'⟩; subst hw')
      | (go_at_call 91; refine (cmpOr_any _ [ci, cs] _ (Ints.lit [ci, cs] (by simp) rfl) (by simp)).mono ?_; rintro e w' ⟨rfl, hw'⟩; subst hw'))
  go_wp2
  go_ret
  exact ⟨by rw [HRES.out]; rfl, (HEs.out.trans HE3.out (by omega) (by simp)).alloc (by have := HEs.out.size; have := HE3.out.size; omega) _⟩

/-- The least of the elements up to a place, by the order of a row. -/
def minN (l : List St) : Nat → St
  | 0 => l.headD default
  | k + 1 => match l[k + 1]? with
    | none => minN l k
    | some x => if cmpRow x (minN l k) < 0 then x else minN l k
theorem minN_succ {l : List St} {k : Nat} {x : St} (h : l[k + 1]? = some x) : minN l (k + 1) = if cmpRow x (minN l k) < 0 then x else minN l k := by
  rw [minN]; rw [h]

set_option maxHeartbeats 4000000 in
set_option maxRecDepth 100000 in
theorem minFunc_any {P : Nat → Prop} (v : Value) (l : List St) (w : World) (hv : Sl stRep P w v l) (hm : l.length ≤ 1000000) (h1 : 0 < l.length) (ht : ∀ s ∈ l, Tame s) :
    Calls Tryz.prog 89 #[v, .func (.func 90) #[] #[]] w fun e w' => ∃ y : St × Sv × Sv, e = .returned (stV y) ∧ y.1 = minN l (l.length - 1) ∧ y.1 ∈ l ∧ Lies P w' y ∧ Ex w.heap.size none w w' := by
  obtain ⟨ao, cap, rfl, hx⟩ := hv
  obtain ⟨w0, hw0⟩ : ∃ w0 : World, w0 = w.alloc (.cells #[.int .i64 0, .int .i64 0, .string ⟨#[]⟩, .int .i64 0, .int .i64 0, .int .i64 0, .int .i64 0, .int .i64 0, .slice none 0 0, .slice none 0 0, .string ⟨#[]⟩, .int .i64 0, .string ⟨#[]⟩] 37) := ⟨_, rfl⟩
  have hz0 : w.heap.size < w0.heap.size := by rw [hw0]; simp
  have HE0 : Hid (Ex w.heap.size none w w0) := Lib.hid (by rw [hw0]; exact Ex.new w _)
  have HB0 : Hid (w0.heap[w.heap.size]? = some (.cells #[.int .i64 0, .int .i64 0, .string ⟨#[]⟩, .int .i64 0, .int .i64 0, .int .i64 0, .int .i64 0, .int .i64 0, .slice none 0 0, .slice none 0 0, .string ⟨#[]⟩, .int .i64 0, .string ⟨#[]⟩] 37 (0, 0))) := Lib.hid (by rw [hw0]; exact heap_alloc_new w _)
  have HX : Hid (∀ w', Ex w.heap.size none w w' → SlAt stRep (fun b => P b ∧ b < w.heap.size) w' ao l) := Lib.hid (fun w' h => (hx.mono (by decide) fun b hb hlt => (⟨hb, hlt⟩ : P b ∧ b < w.heap.size)).keep (by decide) fun b _ hb => h.block b hb (by simp))
  have HT := Lib.hid ht
  have h1I : ¬ (l.length : Int) < 1 := by omega
  have h1J : (0 : Int) < (l.length : Int) := by omega
  obtain ⟨b, off, x, hao, hPb, hbl, HXs, hls0, HLD⟩ := stv_get (HX.out w0 HE0.out) 0 h1
  have HAO := Lib.hid hao
  subst hao
  have hld := HLD.out w0 rfl
  have hnew := stV_new w0 #[.int .i64 0, .int .i64 0, .string ⟨#[]⟩, .int .i64 0, .int .i64 0, .int .i64 0, .int .i64 0, .int .i64 0, .slice none 0 0, .slice none 0 0, .string ⟨#[]⟩, .int .i64 0, .string ⟨#[]⟩] x rfl
  rw [Nat.zero_mul, Nat.add_zero] at hld
  have HLX := Lib.hid hls0
  clear hx ht hls0
  go_enter Tryz.func89, Tryz.ntmps89
  go_upto_region 3 with (fail)
  refine wp_world (fun W => W = w0) (by rw [hw0]) (fun W hW => ?_)
  rw [hW]
  clear hW W hw0
  go_upto_region 5 with (fail)
  rename_i x1 cs heq
  have hcs : cs = (stV x).cells := by rw [heq]; rfl
  subst hcs
  clear heq x1
  refine wp_world (fun W => W = w0.alloc (.cells (stV x).cells 37)) rfl (fun w1 hw1 => ?_)
  have HE1 : Hid (Ex w0.heap.size none w0 w1) := Lib.hid (by rw [hw1]; exact Ex.new w0 _)
  have hz1 : w1.heap.size = w0.heap.size + 1 := by rw [hw1]; simp
  have HB1 : Hid (w1.heap[w0.heap.size]? = some (.cells (stV x).cells 37 (0, 0))) := Lib.hid (by rw [hw1]; exact heap_alloc_new w0 _)
  have HM0 : Hid (x.1 = minN l 0) := Lib.hid (by
    have := HXs.out
    cases l with
    | nil => simp at h1
    | cons a t => simp at this; exact this.symm)
  clear hw1 hld hnew
  go_loopw [6] (fun i wr => ∃ (k : Nat) (y : St × Sv × Sv), k < l.length ∧ i = .int .i64 ((k + 1 : Nat) : Int) ∧ Hid (y.1 = minN l k ∧ y.1 ∈ l ∧ Lies (fun b => P b ∧ b < w.heap.size) wr y) ∧ Hid (wr.heap[w0.heap.size]? = some (.cells (stV y).cells 37 (0, 0))) ∧ Hid (wr.heap[w.heap.size]? = some (.cells #[.int .i64 0, .int .i64 0, .string ⟨#[]⟩, .int .i64 0, .int .i64 0, .int .i64 0, .int .i64 0, .int .i64 0, .slice none 0 0, .slice none 0 0, .string ⟨#[]⟩, .int .i64 0, .string ⟨#[]⟩] 37 (0, 0))) ∧ Ex w.heap.size none w wr) (fun i _ => l.length + 1 - (intOf i).toNat)
  case atStart => exact ⟨0, x, h1, rfl, Lib.hid ⟨HM0.out, List.mem_of_getElem? HXs.out, HLX.out.keep fun b _ hb => HE1.out.block b hb (by simp)⟩, HB1, Lib.hid ((HE1.out.block w.heap.size (by omega) (by simp)).trans HB0.out), HE0.out.trans HE1.out (by omega) (by simp)⟩
  case round =>
    obtain ⟨k, y, hk, rfl, HY, HBY, HBR, hex⟩ := hrel
    have hsz := hex.size
    have hlm : w0.heap.size < wr.heap.size := (Array.getElem?_eq_some_iff.1 HBY.out).1
    have HEX := Lib.hid hex
    clear hex
    by_cases hlt : k + 1 < l.length
    · have hltI : ((k + 1 : Nat) : Int) < (l.length : Int) := by omega
      obtain ⟨b', off', z, hao', _, hbl', HZs, hls, HLDz⟩ := stv_get (HX.out wr HEX.out) (k + 1) hlt
      cases hao'
      obtain ⟨q, hq0⟩ : ∃ q, q = cmpRow z.1 y.1 := ⟨_, rfl⟩
      have HLZ : Hid (∀ w', Ex wr.heap.size none wr w' → Lies (fun b => P b ∧ b < w.heap.size) w' z) := Lib.hid (fun w' h => hls.keep fun b _ hb => h.block b (by omega) (by simp))
      have HCM : Hid (∀ w', Ex wr.heap.size none wr w' → Calls Tryz.prog 90 #[stV z, stV y] w' fun e w'' => e = .returned (.int .i64 q) ∧ Ex w'.heap.size none w' w'') := Lib.hid (fun w' h => by rw [hq0]; exact rowCmp_any z y w' (HLZ.out w' h) (HY.out.2.2.keep fun b _ hb => h.block b hb (by simp)) (HT.out _ (List.mem_of_getElem? HZs.out)) (HT.out _ HY.out.2.1))
      have HQ0 := Lib.hid hq0
      have HQ : Hid (∀ w', Ex wr.heap.size none wr w' → (rowLoad 37 ⟨b, off + (k + 1) * 13, none⟩).run Tryz.prog w' = .ok (stV z) w' ∧ (rowLoad 37 ⟨w0.heap.size, 0, none⟩).run Tryz.prog w' = .ok (stV y) w') := Lib.hid (fun w' h => ⟨HLDz.out w' (h.block b hbl' (by simp)), stV_box ((h.block (w0.heap.size) hlm (by simp)).trans HBY.out)⟩)
      have hq := fun p0 : ExW wr => HQ.out p0.w' p0.ex
      clear hq0 hls
      by_cases hc : q < 0
      · have d1 : decide (q < 0) = true := decide_eq_true hc
        go_upto_region 7 with (fail)
        refine wp_region_quiet_ex (by kernel_rfl) (by kernel_rfl) ?_
        repeat (go_big_quiet_step ((go_at_call 90; refine calls_ex_of (HCM.out _ (ExW.ex _)))))
        refine wpQuiet_nil ?_
        intro _ hw'
        obtain ⟨p9, hw''⟩ := hw'
        subst hw''
        have HE9 : Hid (Ex wr.heap.size none wr p9.w') := Lib.hid p9.ex
        clear hq
        have r1 := (HQ.out _ HE9.out).1
        have hb9 : p9.w'.heap[w0.heap.size]? = some (.cells (stV y).cells 37 (0, 0)) := (HE9.out.block _ hlm (by simp)).trans HBY.out
        have hst : (rowStore 37 ⟨w0.heap.size, 0, none⟩ (stV z)).run Tryz.prog p9.w' = .ok () (p9.w'.setRow w0.heap.size (stV z).cells) := run_rowStore (P := Tryz.prog) p9.w' w0.heap.size 37 37 (stV y).cells (stV z).cells hb9 Tryz.sizeStv rfl (stV_one z)
        have HB9 := Lib.hid hb9
        clear hb9
        go_wp2
        go_roundw
        case rel =>
          refine ⟨k + 1, z, hlt, by go_num, Lib.hid ⟨by rw [minN_succ HZs.out, ← HY.out.1, if_pos (by rw [← HQ0.out]; exact hc)], List.mem_of_getElem? HZs.out, (HLZ.out _ HE9.out).keep fun b hb _ => setRow_other _ _ _ _ (by omega)⟩, Lib.hid (setRow_heap _ _ _ _ _ _ HB9.out), Lib.hid ((setRow_other _ _ _ _ (by omega)).trans ((HE9.out.block _ (by omega) (by simp)).trans HBR.out)), (HEX.out.trans HE9.out hsz (by simp)).setRow _ _ (.inr (by omega))⟩
        case measure => simp [intOf] <;> omega
      · have d1 : decide (q < 0) = false := decide_eq_false hc
        go_upto_region 7 with (fail)
        refine wp_region_quiet_ex (by kernel_rfl) (by kernel_rfl) ?_
        repeat (go_big_quiet_step ((go_at_call 90; refine calls_ex_of (HCM.out _ (ExW.ex _)))))
        refine wpQuiet_nil ?_
        intro _ hw'
        obtain ⟨p9, hw''⟩ := hw'
        subst hw''
        have HE9 : Hid (Ex wr.heap.size none wr p9.w') := Lib.hid p9.ex
        clear hq
        go_wp2
        go_roundw
        case rel => exact ⟨k + 1, y, hlt, by go_num, Lib.hid ⟨by rw [minN_succ HZs.out, ← HY.out.1, if_neg (by rw [← HQ0.out]; exact hc)], HY.out.2.1, HY.out.2.2.keep fun b _ hb => HE9.out.block b hb (by simp)⟩, Lib.hid ((HE9.out.block _ hlm (by simp)).trans HBY.out), Lib.hid ((HE9.out.block _ (by omega) (by simp)).trans HBR.out), HEX.out.trans HE9.out hsz (by simp)⟩
        case measure => simp [intOf] <;> omega
    · obtain hkl : k + 1 = l.length := by omega
      have hltI : ¬ ((k + 1 : Nat) : Int) < (l.length : Int) := by omega
      have r1 := stV_box HBY.out
      have hst : (rowStore 37 ⟨w.heap.size, 0, none⟩ (stV y)).run Tryz.prog wr = .ok () (wr.setRow w.heap.size (stV y).cells) := run_rowStore (P := Tryz.prog) wr w.heap.size 37 37 #[.int .i64 0, .int .i64 0, .string ⟨#[]⟩, .int .i64 0, .int .i64 0, .int .i64 0, .int .i64 0, .int .i64 0, .slice none 0 0, .slice none 0 0, .string ⟨#[]⟩, .int .i64 0, .string ⟨#[]⟩] (stV y).cells HBR.out Tryz.sizeStv rfl (stV_one y)
      have r2 : (rowLoad 37 ⟨w.heap.size, 0, none⟩).run Tryz.prog (wr.setRow w.heap.size (stV y).cells) = .ok (stV y) (wr.setRow w.heap.size (stV y).cells) := stV_box (setRow_heap _ _ _ _ _ _ HBR.out)
      go_wp2
      rename_i cs heq
      obtain rfl : cs = (stV y).cells := by rw [heq]; rfl
      refine bodyPost_ret (v := stV y) (results_cell_row rfl _ _ w.heap.size 37 (stV y).cells (0, 0) _ (by rfl) (setRow_heap _ _ _ _ _ _ HBR.out) Tryz.underlying37 rfl Tryz.sizeStv) rfl ?_
      exact ⟨y.1, y.2.1, y.2.2, rfl, by show y.1 = _; rw [HY.out.1, show l.length - 1 = k by omega], HY.out.2.1, (HY.out.2.2.keep fun b hb _ => setRow_other _ _ _ _ (by omega)).mono fun b hb _ => hb.1, HEX.out.setRow _ _ (.inr (Nat.le_refl _))⟩
end Go.Proofs.YtaakacahblndcaaGreat

namespace Go.Proofs.YtaakacahblndcaaGreat
open Go.RowKit Go.Sort

theorem rowStore_lkv (a : Addr) (v : Value) : storeVar 169 a v = rowStore 169 a v := rfl
theorem rowLoad_lkv (a : Addr) : loadVar 169 a = rowLoad 169 a := rfl
theorem Tryz.sizeLkv : (Tryz.prog.info? 169).map (·.size) = some 14 := by kernel_rfl
attribute [local go_sem ↓] rowLoad_stv rowStore_stv rowLoad_lkv rowStore_lkv
/-- A link as a value. -/
def linkV (x : St × Sv × Sv) : Value := .agg (linkE x).toArray
theorem linkV_cells (x : St × Sv × Sv) : (linkV x).cells = (linkE x).toArray := rfl
theorem linkV_one (x : St × Sv × Sv) : (linkV x).cells.all (·.oneCell') = true := by
  rw [Array.all_eq_true_iff_forall_mem]
  intro v hv
  exact one_linkE x v (by simpa [linkV_cells] using hv)
theorem linkV_load {w : World} {b o : Nat} {x : St × Sv × Sv} (h : w.rangeAt b o (linkE x)) : (rowLoad 169 ⟨b, o, none⟩).run Tryz.prog w = .ok (linkV x) w :=
  run_loadVar_mid w b o 169 (linkE x) _ h Tryz.underlying169 rfl Tryz.sizeLkv
theorem linkV_box {w : World} {g : Nat} {x : St × Sv × Sv} {t : TypeId} {fr : Nat × Nat} (h : w.heap[g]? = some (.cells (linkV x).cells t fr)) : (rowLoad 169 ⟨g, 0, none⟩).run Tryz.prog w = .ok (linkV x) w :=
  run_rowLoad (P := Tryz.prog) w g t 169 (linkE x).toArray fr _ h Tryz.underlying169 rfl Tryz.sizeLkv
theorem linkV_new (w : World) (old : Array Value) (x : St × Sv × Sv) (ho : old.size = 14) : (rowStore 169 ⟨w.heap.size, 0, none⟩ (linkV x)).run Tryz.prog (w.alloc (.cells old 169)) = .ok () (w.alloc (.cells (linkV x).cells 169)) := by
  have h := run_rowStore (P := Tryz.prog) (w.alloc (.cells old 169)) w.heap.size 169 169 old (linkV x).cells (heap_alloc_new w _) Tryz.sizeLkv (by rw [ho]; rfl) (linkV_one x)
  rw [alloc_setRow] at h
  exact h
/-- The cells of a link in a block of its own. -/
theorem linkV_cell {w : World} {g : Nat} {x : St × Sv × Sv} {t : TypeId} {fr : Nat × Nat} (h : w.heap[g]? = some (.cells (linkV x).cells t fr)) (j : Nat) : w.cell? ⟨g, j, none⟩ = (linkE x)[j]? := by
  rw [cell_of_row _ _ _ _ _ _ h, linkV_cells]
  simp
theorem linkV_cells5 {w : World} {g : Nat} {x : St × Sv × Sv} {t : TypeId} {fr : Nat × Nat} (h : w.heap[g]? = some (.cells (linkV x).cells t fr)) : w.cell? ⟨g, 0, none⟩ = some (.int .i64 x.1.author) ∧ w.cell? ⟨g, 1, none⟩ = some (.int .i64 x.1.number) ∧ w.cell? ⟨g, 2, none⟩ = some (.string x.1.prev) ∧ w.cell? ⟨g, 3, none⟩ = some (.int .i64 x.1.time) ∧ w.cell? ⟨g, 13, none⟩ = some (.string x.1.dig) :=
  ⟨linkV_cell h 0, linkV_cell h 1, linkV_cell h 2, linkV_cell h 3, linkV_cell h 13⟩
/-- The statement of a link in a block of its own. -/
theorem linkV_st {w : World} {g : Nat} {x : St × Sv × Sv} {t : TypeId} {fr : Nat × Nat} (h : w.heap[g]? = some (.cells (linkV x).cells t fr)) : (rowLoad 37 ⟨g, 0, none⟩).run Tryz.prog w = .ok (stV x) w :=
  stV_load fun j v hj => by
    rw [Nat.zero_add, linkV_cell h]
    have : linkE x = stE x ++ [.string x.1.dig] := rfl
    rw [this, List.getElem?_append_left (List.getElem?_eq_some_iff.1 hj).1]
    exact hj
theorem lkv_get {P : Nat → Prop} {w : World} {ao : Option Addr} {l : List St} (h : SlAt linkRep P w ao l) (k : Nat) (hk : k < l.length) :
    ∃ b off x, ao = some ⟨b, off, none⟩ ∧ P b ∧ b < w.heap.size ∧ Hid (l[k]? = some x.1) ∧ Lies P w x ∧ Hid (w.rangeAt b (off + k * 14) (linkE x)) := by
  obtain ⟨b, off, s, l', p, e, hp, hl, hr, hx⟩ := link_get h k hk
  exact ⟨b, off, (s, l', p), e, hp, rangeAt_lt hr (by rw [linkE_len]; decide), hx, hl, Lib.hid hr⟩
theorem copied_v {P : Nat → Prop} (x : St × Sv × Sv) (w : World) (h : Lies P w x) (hm : x.1.list.length ≤ 1000000 ∧ x.1.pins.length ≤ 1000000) :
    Calls Tryz.prog 140 #[stV x] w fun e w' => ∃ y, e = .returned (stV y) ∧ y.1 = x.1 ∧ Lies (fun b => w.heap.size ≤ b) w' y ∧ Ex w.heap.size none w w' := by
  obtain ⟨s, ⟨lo, ln, lc⟩, ⟨po, pn, pc⟩⟩ := x
  exact (copied_any s lo po ln lc pn pc w h hm).mono fun e w' ⟨la, na, ca, pa, np, cp, h1, h2, h3⟩ => ⟨(s, ⟨la, na, ca⟩, ⟨pa, np, cp⟩), h1, rfl, h2, h3⟩
/-- A link follows another. -/
def followsL (a b : St) : Bool := decide (b.author = a.author) && decide (a.number < b.number) && decide (b.number - 1 = a.number) && (b.prev.toList == a.dig.toList) && decide (a.time ≤ b.time)
theorem followsL_iff {a b : St} : followsL a b = true ↔ b.author = a.author ∧ b.number = a.number + 1 ∧ b.prev = a.dig ∧ a.time ≤ b.time := by
  unfold followsL
  rw [toListB]
  simp only [Bool.and_eq_true, decide_eq_true_eq]
  constructor
  · rintro ⟨⟨⟨⟨h1, h2⟩, h3⟩, h4⟩, h5⟩
    exact ⟨h1, by omega, h4, h5⟩
  · rintro ⟨h1, h2, h4, h5⟩
    exact ⟨⟨⟨⟨h1, by omega⟩, by omega⟩, h4⟩, h5⟩
set_option maxHeartbeats 4000000 in
set_option maxRecDepth 100000 in
theorem follows_v (x y : St × Sv × Sv) (w : World) (hx : -9223372036854775808 ≤ x.1.number) (hy : y.1.number ≤ 9223372036854775807) :
    Calls Tryz.prog 183 #[linkV x, linkV y] w fun e w' => e = .returned (.bool (followsL x.1 y.1)) ∧ Ex w.heap.size none w w' := by
  obtain ⟨s, hs⟩ : ∃ s, s = x.1 := ⟨_, rfl⟩
  obtain ⟨t, ht⟩ : ∃ t, t = y.1 := ⟨_, rfl⟩
  obtain ⟨ws, hws⟩ : ∃ ws : World, ws = (w.alloc (.cells (linkV x).cells 169)).alloc (.cells (linkV y).cells 169) := ⟨_, rfl⟩
  have HEs : Hid (Ex w.heap.size none w ws) := Lib.hid (by rw [hws]; exact (Ex.new w _).alloc (by simp) _)
  have h2 : ws.heap[w.heap.size + 1]? = some (.cells (linkV y).cells 169 (0, 0)) := by
    rw [hws]
    have := heap_alloc_new (w.alloc (.cells (linkV x).cells 169)) (.cells (linkV y).cells 169)
    rwa [World.size_alloc] at this
  have h1 : ws.heap[w.heap.size]? = some (.cells (linkV x).cells 169 (0, 0)) := by
    rw [hws]
    exact ((Ex.new (w.alloc (.cells (linkV x).cells 169)) _).block w.heap.size (by simp) (by simp)).trans (heap_alloc_new w _)
  obtain ⟨a0, a1, a2, a3, a13⟩ := linkV_cells5 h1
  obtain ⟨b0, b1, b2, b3, b13⟩ := linkV_cells5 h2
  rw [← hs] at a0 a1 a2 a3 a13 hx ⊢
  rw [← ht] at b0 b1 b2 b3 b13 hy ⊢
  clear h1 h2 hs ht
  go_enter Tryz.func183, Tryz.ntmps183
  go_upto_region 1 with (fail)
  refine wp_world (fun W => W = ws) (by rw [hws]; rfl) (fun W hW => ?_)
  rw [hW]
  clear hW W hws
  by_cases t1 : t.author = s.author
  case neg =>
    have k1 : (t.author == s.author) = false := by simpa using t1
    have HF : Hid (followsL s t = false) := Lib.hid (by simp [followsL, t1])
    clear t1
    go_wp2
    go_ret
    exact ⟨by rw [HF.out]; rfl, HEs.out⟩
  have k1 : (t.author == s.author) = true := by simpa using t1
  have HT1 := Lib.hid t1
  clear t1
  by_cases t2 : s.number < t.number
  case neg =>
    have k2 : decide (s.number < t.number) = false := decide_eq_false t2
    have HF : Hid (followsL s t = false) := Lib.hid (by simp [followsL, k2])
    clear t2
    go_wp2
    go_ret
    exact ⟨by rw [HF.out]; rfl, HEs.out⟩
  have k2 : decide (s.number < t.number) = true := decide_eq_true t2
  have kw : IntKind.i64.wrap (t.number - 1) = t.number - 1 := by rw [IntKind.wrap_i64]; omega
  by_cases t3 : t.number - 1 = s.number
  case neg =>
    have k3 : (t.number - 1 == s.number) = false := by simpa using t3
    have HF : Hid (followsL s t = false) := Lib.hid (by simp [followsL, t3])
    clear t3 t2
    go_wp2
    go_ret
    exact ⟨by rw [HF.out]; rfl, HEs.out⟩
  have k3 : (t.number - 1 == s.number) = true := by simpa using t3
  have HT3 := Lib.hid t3
  have HT2 := Lib.hid t2
  clear t3 t2
  cases t4 : (t.prev.toList == s.dig.toList) with
  | false =>
    have HF : Hid (followsL s t = false) := Lib.hid (by simp [followsL, t4])
    go_wp2
    go_ret
    exact ⟨by rw [HF.out]; rfl, HEs.out⟩
  | true =>
    have HF : Hid (followsL s t = decide (s.time ≤ t.time)) := Lib.hid (by simp [followsL, t4, HT1.out, HT2.out, HT3.out])
    go_wp2
    go_ret
    exact ⟨by rw [HF.out]; rfl, HEs.out⟩
end Go.Proofs.YtaakacahblndcaaGreat

namespace Go.Proofs.YtaakacahblndcaaGreat
open Go.RowKit Go.Sort Go.Maps
attribute [local go_sem] Oper.semAt_some
attribute [local go_sem ↓] rowLoad_stv rowStore_stv rowLoad_lkv rowStore_lkv

/-- A key of the map of links. -/
def keyS (s : ByteArray) : Lit := .string s.data.toList
theorem keyS_inj {s t : ByteArray} (h : keyS s = keyS t) : s = t := by
  simp only [keyS, Lit.string.injEq] at h
  apply ByteArray.ext
  exact Array.ext' h
/-- What is stored for a link. -/
def storeL (x : St × Sv × Sv) : Lit × Value := (keyS x.1.dig, linkV x)
/-- The last link with a digest. -/
def lookX (X : List (St × Sv × Sv)) (d : ByteArray) : Option (St × Sv × Sv) := X.foldl (fun r x => if x.1.dig = d then some x else r) none
theorem lookX_snoc (X : List (St × Sv × Sv)) (x : St × Sv × Sv) (d : ByteArray) : lookX (X ++ [x]) d = if x.1.dig = d then some x else lookX X d := by
  unfold lookX; rw [List.foldl_append]; rfl
theorem lastV_look (X : List (St × Sv × Sv)) (d : ByteArray) : lastV (X.map storeL) (keyS d) = (lookX X d).map linkV := by
  induction X using snoc_ind with
  | nil => rfl
  | snoc X x ih =>
    rw [List.map_append, List.map_singleton, lastV_snoc, lookX_snoc, ih]
    by_cases h : x.1.dig = d
    · rw [if_pos h, if_pos (by simp [storeL, h])]; rfl
    · rw [if_neg h, if_neg (show ¬ (storeL x).1 = keyS d from fun e => h (keyS_inj e))]
theorem lookX_mem {X : List (St × Sv × Sv)} {d : ByteArray} {x : St × Sv × Sv} (h : lookX X d = some x) : x ∈ X ∧ x.1.dig = d := by
  induction X using snoc_ind with
  | nil => cases h
  | snoc X y ih =>
    rw [lookX_snoc] at h
    split at h
    · next e => cases h; exact ⟨by simp, e⟩
    · have := ih h; exact ⟨List.mem_append_left _ this.1, this.2⟩
/-- The link behind which another stands. -/
def beforeX (X : List (St × Sv × Sv)) (x : St × Sv × Sv) : Option (St × Sv × Sv) := (lookX X x.1.prev).filter fun y => followsL y.1 x.1
/-- From a link back, as far as each follows the one before. -/
def backX (X : List (St × Sv × Sv)) : Nat → St × Sv × Sv → List (St × Sv × Sv)
  | 0, _ => []
  | f + 1, x => x :: (match beforeX X x with
    | none => []
    | some y => backX X f y)
theorem backX_none {X : List (St × Sv × Sv)} {x : St × Sv × Sv} {f : Nat} (h : beforeX X x = none) : backX X (f + 1) x = [x] := by simp only [backX, h]
theorem backX_some {X : List (St × Sv × Sv)} {x y : St × Sv × Sv} {f : Nat} (h : beforeX X x = some y) : backX X (f + 1) x = x :: backX X f y := by simp only [backX, h]

theorem backX_len (X : List (St × Sv × Sv)) : ∀ (f : Nat) (x : St × Sv × Sv), (backX X f x).length ≤ f
  | 0, _ => Nat.le_refl _
  | f + 1, x => by
    cases h : beforeX X x with
    | none => rw [backX_none h]; simp
    | some y => rw [backX_some h]; have := backX_len X f y; simp; omega
theorem ownsMap_same {H : Type} {P : Program} {k : TypeId} {R : Value → Option (DataW H × List MemPlace)} {w w' : World} {b n : Nat} {D : DataW H} (h : w.ownsMap P k R b n D) (hb : w'.heap[b]? = w.heap[b]?) : w'.ownsMap P k R b n D := by
  obtain ⟨es, clock, h1, h2⟩ := h
  exact ⟨es, clock, hb.trans h1, h2⟩
/-- 'v, ok := m[k]' in a fence. -/
theorem wpListIn_lookV {F : Fence} {nF : Nat} {P : Program} (w : World) {ops : Array Oper} {rest : List Oper} {o : Oper} {a : Act} {Q : Exit → Act → World → Prop}
    (hg : o.guard = none) (m x : Operand) (t : TypeId) (hop : o.op = Op.lookup t m x true)
    (k e : TypeId) (K : Keyed P k) (ht : P.underlying t = some (.map k e)) (z : Value) (hz : (zeroValue e).run P w = .ok z w) (b n : Nat) (l : List (Lit × Value))
    (hm : a.eval m = .map (some b)) (hown : w.ownsMap P k valElem b n (mapV l)) (key : Value) (kl : Lit) (hx : a.eval x = key) (hkey : keyOf P k key = some kl) (hkl : WideAt.IsKeyLit kl)
    (v : Value) (ok : Bool) (hv : (lastV l kl).getD z = v) (hok : (lastV l kl).isSome = ok)
    (hK : wpListIn F nF P ops Q rest (a.put o.dst (.tuple #[v, .bool ok])) w) :
    wpListIn F nF P ops Q (o :: rest) a w := by
  refine wpListIn_plain hg fun K' hK' => ?_
  obtain ⟨u, ps, hrun, hr⟩ := hown.look_ok K ht hz (zd := .held z) (zp := []) rfl hkey
  have h1 := valElem_inv hr
  rw [mapV_at z hkl, hv] at h1
  cases h1
  rw [mapV_has hkl, hok] at hrun
  unfold Oper.wpIn
  refine ⟨by simp [Oper.about, hop], ?_⟩
  rw [Oper.semAt_plain F _ _ (by rw [hop]; intro c hc'; cases hc')]
  simp [execOp, hop, hm, hx, hrun, Result.andThen]
  exact hK' _ _ hK

/-- The cells of no link. -/
def zeroLk : St × Sv × Sv := (⟨0, 0, ⟨#[]⟩, 0, 0, 0, 0, 0, [], [], ⟨#[]⟩, 0, ⟨#[]⟩⟩, ⟨none, 0, 0⟩, ⟨none, 0, 0⟩)
theorem zeroLk_val (w : World) : (zeroValue 169).run Tryz.prog w = .ok (linkV zeroLk) w := Tryz.zeroValue169 w
/-- What a link's number says, read off a box. -/
def numAt (w : World) (g : Nat) : Nat := match w.cell? ⟨g, 1, none⟩ with
  | some (.int _ n) => n.toNat
  | _ => 0
theorem numAt_eq {w : World} {g : Nat} {x : St × Sv × Sv} {t : TypeId} {fr : Nat × Nat} (h : w.heap[g]? = some (.cells (linkV x).cells t fr)) : numAt w g = x.1.number.toNat := by
  unfold numAt
  rw [(linkV_cells5 h).2.1]

set_option maxHeartbeats 8000000 in
set_option maxRecDepth 100000 in
/-- The iterator, whatever the rounds do that keep what lies below N but block go. -/
theorem back1_in (l gx gm mb cnt N go : Nat) (X : List (St × Sv × Sv)) (x0 : St × Sv × Sv) (J Jx : List (St × Sv × Sv) → World → Prop) (W : World)
    (hX : ∀ x ∈ X, (0 ≤ x.1.number ∧ x.1.number ≤ 200) ∧ x.1.prev.size ≤ maxLen) (hx0 : x0 ∈ X) (hgx : gx < N ∧ gx ≠ go) (hgm : gm < N ∧ gm ≠ go ∧ gm ≠ gx) (hmb : mb < N ∧ mb ≠ go ∧ mb ≠ gx) (hN : N ≤ W.heap.size)
    (hJ : ∀ pre A B, J pre A → Ex A.heap.size (some gx) A B → J pre B)
    (hY : ∀ pre x W1, J pre W1 → x ∈ X → pre.length ≤ 200 → YieldAt Fence.wide 0 Tryz.prog l #[linkV x] W1 fun e W' => (e = .returned (.bool true) ∧ J (pre ++ [x]) W' ∧ Ex N (some go) W1 W') ∨ (e = .returned (.bool false) ∧ Jx (pre ++ [x]) W'))
    (hW1 : W.heap[gx]? = some (.cells (linkV x0).cells 169 (0, 0))) (hW2 : W.cell? ⟨gm, 0, none⟩ = some (.map (some mb))) (hW3 : W.ownsMap Tryz.prog 9 valElem mb cnt (mapV (X.map storeL))) (h0 : J [] W) :
    CallsIn Fence.wide 1 Tryz.prog 182 #[.func (.yield l) #[] #[], .pointer (some ⟨gx, 0, none⟩), .pointer (some ⟨gm, 0, none⟩)] W fun e W' => (∃ v, e = .returned v) ∧ (J (backX X 201 x0) W' ∨ ∃ pre rest, pre ++ rest = backX X 201 x0 ∧ Jx pre W') := by
  have HX := Lib.hid hX
  have HJ := Lib.hid hJ
  have HY := Lib.hid hY
  clear hX hJ hY
  refine callsIn_of_wp Tryz.func182 rfl trivial ?_ rfl
  simp only [Tryz.ntmps182, List.size_toArray, List.length_cons, List.length_nil, Nat.reduceAdd, Nat.reduceSub, Array.replicate_succ, Array.replicate_zero, List.push_toArray, List.append_toArray, List.nil_append, List.cons_append]
  gi_wp2
  gi_loopw [] (fun wr => ∃ (pre : List (St × Sv × Sv)) (x : St × Sv × Sv) (f : Nat), Hid (pre ++ backX X (f + 1) x = backX X 201 x0) ∧ x ∈ X ∧ x.1.number.toNat ≤ f ∧ Hid (wr.heap[gx]? = some (.cells (linkV x).cells 169 (0, 0))) ∧ wr.cell? ⟨gm, 0, none⟩ = some (.map (some mb)) ∧ Hid (wr.ownsMap Tryz.prog 9 valElem mb cnt (mapV (X.map storeL))) ∧ Hid (J pre wr) ∧ N ≤ wr.heap.size)
    (fun wr => numAt wr gx)
  case atStart => exact ⟨[], x0, 200, Lib.hid rfl, hx0, by have := (HX.out x0 hx0).1; omega, Lib.hid hW1, hW2, Lib.hid hW3, Lib.hid h0, hN⟩
  case round =>
    obtain ⟨pre, x, f, HP, hxm, hxf, HB, hcm, HM, HJp, hNr⟩ := hrel
    have hpl : pre.length ≤ 200 := by
      have h1 := congrArg List.length HP.out
      have h2 := backX_len X 201 x0
      have h3 : 1 ≤ (backX X (f + 1) x).length := by simp [backX]
      rw [List.length_append] at h1
      omega
    obtain ⟨fn, tmps, assign, body, hy, hR⟩ := HY.out pre x wr HJp.out hxm hpl
    have hl1 := linkV_box HB.out
    have HFL : Hid ((0 ≤ x.1.number ∧ x.1.number ≤ 200) ∧ x.1.prev.size ≤ maxLen) := Lib.hid (HX.out x hxm)
    gi_wp2
    refine hR.mono ?_
    rintro e W3 (⟨rfl, hJ3, hk3⟩ | ⟨rfl, hJx3⟩)
    · have HJ3 := Lib.hid hJ3
      have HK3 := Lib.hid hk3
      have hN3 : N ≤ W3.heap.size := Nat.le_trans hNr hk3.size
      have HB3 : Hid (W3.heap[gx]? = some (.cells (linkV x).cells 169 (0, 0))) := Lib.hid ((hk3.block gx hgx.1 (fun e => hgx.2 (Option.some.inj e))).trans HB.out)
      have hcm3 : W3.cell? ⟨gm, 0, none⟩ = some (.map (some mb)) := (World.cell?_of_block (w := wr) (a := ⟨gm, 0, none⟩) (hk3.block gm hgm.1 (fun e => hgm.2.1 (Option.some.inj e)))).trans hcm
      have HM3 : Hid (W3.ownsMap Tryz.prog 9 valElem mb cnt (mapV (X.map storeL))) := Lib.hid (ownsMap_same HM.out (hk3.block mb hmb.1 (fun e => hmb.2.1 (Option.some.inj e))))
      have hcp : W3.cell? ⟨gx, 2, none⟩ = some (.string x.1.prev) := (linkV_cells5 HB3.out).2.2.1
      clear hJ3 hk3 hl1 hcm hy hR
      cases hlk : lookX X x.1.prev with
      | none =>
        have HLK : Hid (lastV (X.map storeL) (keyS x.1.prev) = none) := Lib.hid (by rw [lastV_look, hlk]; rfl)
        have HBE : Hid (pre ++ [x] = backX X 201 x0) := Lib.hid (by rw [← HP.out, backX_none (show beforeX X x = none by unfold beforeX; rw [hlk]; rfl)])
        have hnew := linkV_new W3 #[.int .i64 0, .int .i64 0, .string ⟨#[]⟩, .int .i64 0, .int .i64 0, .int .i64 0, .int .i64 0, .int .i64 0, .slice none 0 0, .slice none 0 0, .string ⟨#[]⟩, .int .i64 0, .string ⟨#[]⟩, .string ⟨#[]⟩] zeroLk rfl
        clear hlk
        gi_wp2_with (gi_at_lookup; go_loud (refine wpListIn_lookV _ rfl _ _ _ (by rfl) 9 169 (string_keyed Tryz.underlying9) Tryz.underlying165 (linkV zeroLk) (zeroLk_val _) mb cnt (X.map storeL) (by rfl) HM3.out _ (keyS x.1.prev) (by rfl) (WideMaps.keyOf_string_mk Tryz.underlying9 HFL.out.2) trivial (linkV zeroLk) false (by rw [HLK.out]; rfl) (by rw [HLK.out]; rfl) ?_))
        refine ⟨trivial, ?_⟩
        gi_wp2
        refine bodyPost_ret (results_none rfl _ _ _) rfl ?_
        exact ⟨⟨_, rfl⟩, .inl (by rw [← HBE.out]; exact HJ.out _ _ _ HJ3.out ((Ex.refl _ _ W3).alloc (Nat.le_refl _) _))⟩
      | some y =>
        have HLK : Hid (lastV (X.map storeL) (keyS x.1.prev) = some (linkV y)) := Lib.hid (by rw [lastV_look, hlk]; rfl)
        have hym := (lookX_mem hlk).1
        have HFY := Lib.hid (HX.out y hym)
        have hnew := linkV_new W3 #[.int .i64 0, .int .i64 0, .string ⟨#[]⟩, .int .i64 0, .int .i64 0, .int .i64 0, .int .i64 0, .int .i64 0, .slice none 0 0, .slice none 0 0, .string ⟨#[]⟩, .int .i64 0, .string ⟨#[]⟩, .string ⟨#[]⟩] y rfl
        obtain ⟨fw, hfw⟩ : ∃ fw, fw = followsL y.1 x.1 := ⟨_, rfl⟩
        have HBF : Hid (beforeX X x = if fw then some y else none) := Lib.hid (by
          unfold beforeX; rw [hlk, hfw]
          cases h : followsL y.1 x.1 <;> simp [Option.filter, h])
        have HFW := Lib.hid hfw
        have HCF : Hid (∀ w', Calls Tryz.prog 183 #[linkV y, linkV x] w' fun e w'' => e = .returned (.bool fw) ∧ Ex w'.heap.size none w' w'') := Lib.hid (fun w' => by rw [hfw]; exact follows_v y x w' (by have := HFY.out.1; omega) (by have := HFL.out.1; omega))
        clear hlk hfw
        obtain ⟨W4, hW4⟩ : ∃ W4, W4 = W3.alloc (.cells (linkV y).cells 169) := ⟨_, rfl⟩
        have HE4 : Hid (Ex W3.heap.size none W3 W4) := Lib.hid (by rw [hW4]; exact Ex.new W3 _)
        have hz4 : W4.heap.size = W3.heap.size + 1 := by rw [hW4]; simp
        have HQ4 : Hid (∀ w', Ex W4.heap.size none W4 w' → w'.heap[W3.heap.size]? = some (.cells (linkV y).cells 169 (0, 0)) ∧ w'.heap[gx]? = some (.cells (linkV x).cells 169 (0, 0))) := Lib.hid (fun w' h => ⟨(h.block _ (by omega) (by simp)).trans (by rw [hW4]; exact heap_alloc_new W3 _), (h.block gx (by omega) (by simp)).trans ((HE4.out.block gx (by omega) (by simp)).trans HB3.out)⟩)
        have r1 := linkV_box (HQ4.out _ (Ex.refl _ _ W4)).1
        have r2 := linkV_box (HQ4.out _ (Ex.refl _ _ W4)).2
        rw [← hW4] at hnew
        clear hW4
        cases fw with
        | false =>
          gi_wp2_with (first
            | (gi_at_lookup; refine wpListIn_lookV _ rfl _ _ _ (by rfl) 9 169 (string_keyed Tryz.underlying9) Tryz.underlying165 (linkV zeroLk) (zeroLk_val _) mb cnt (X.map storeL) (by rfl) HM3.out _ (keyS x.1.prev) (by rfl) (WideMaps.keyOf_string_mk Tryz.underlying9 HFL.out.2) trivial (linkV y) true (by rw [HLK.out]; rfl) (by rw [HLK.out]; rfl) ?_)
            | (refine ⟨trivial, ?_⟩; gi_at_call 183; refine (callsIn_wide.2 (HCF.out _)).mono ?_; rintro e W5 ⟨rfl, hex⟩; have HE5 := Lib.hid hex; clear hex)
            | fail)
          refine bodyPost_ret (results_none rfl _ _ _) rfl ?_
          exact ⟨⟨_, rfl⟩, .inl (by rw [← HP.out, backX_none (show beforeX X x = none by rw [HBF.out]; rfl)]; exact HJ.out _ _ _ HJ3.out ⟨(HE4.out.trans HE5.out (by omega) (by simp)).os, (HE4.out.trans HE5.out (by omega) (by simp)).tape, (HE4.out.trans HE5.out (by omega) (by simp)).output, (HE4.out.trans HE5.out (by omega) (by simp)).size, fun b hb _ => (HE4.out.trans HE5.out (by omega) (by simp)).block b hb (by simp)⟩)⟩
        | true =>
          gi_wp2_with (first
            | (gi_at_lookup; refine wpListIn_lookV _ rfl _ _ _ (by rfl) 9 169 (string_keyed Tryz.underlying9) Tryz.underlying165 (linkV zeroLk) (zeroLk_val _) mb cnt (X.map storeL) (by rfl) HM3.out _ (keyS x.1.prev) (by rfl) (WideMaps.keyOf_string_mk Tryz.underlying9 HFL.out.2) trivial (linkV y) true (by rw [HLK.out]; rfl) (by rw [HLK.out]; rfl) ?_)
            | (refine ⟨trivial, ?_⟩; gi_at_call 183; refine (callsIn_wide.2 (HCF.out _)).mono ?_; rintro e W5 ⟨rfl, hex⟩
               have HE5 := Lib.hid hex
               have r3 := linkV_box (HQ4.out _ hex).1
               have hst : (rowStore 169 ⟨gx, 0, none⟩ (linkV y)).run Tryz.prog W5 = .ok () (W5.setRow gx (linkV y).cells) := run_rowStore (P := Tryz.prog) W5 gx 169 169 (linkV x).cells (linkV y).cells (HQ4.out _ hex).2 Tryz.sizeLkv rfl (linkV_one y)
               obtain ⟨W6, hW6⟩ : ∃ W6, W6 = W5.setRow gx (linkV y).cells := ⟨_, rfl⟩
               rw [← hW6] at hst
               have HW6 := Lib.hid hW6
               clear hex r1 r2 hW6)
            | fail)
          have HE6 : Hid (Ex W3.heap.size (some gx) W3 W6) := Lib.hid (by
            rw [HW6.out]
            have h := HE4.out.trans HE5.out (by omega) (by simp)
            have h' : Ex W3.heap.size (some gx) W3 W5 := ⟨h.os, h.tape, h.output, h.size, fun b hb _ => h.block b hb (by simp)⟩
            exact h'.setRow _ _ (.inl rfl))
          have HB6 : Hid (W6.heap[gx]? = some (.cells (linkV y).cells 169 (0, 0))) := Lib.hid (by rw [HW6.out]; exact setRow_heap _ _ _ _ _ _ (HQ4.out _ HE5.out).2)
          have hcm6 : W6.cell? ⟨gm, 0, none⟩ = some (.map (some mb)) := (World.cell?_of_block (w := W3) (a := ⟨gm, 0, none⟩) (HE6.out.block gm (by omega) (fun e => hgm.2.2 (Option.some.inj e)))).trans hcm3
          have HM6 : Hid (W6.ownsMap Tryz.prog 9 valElem mb cnt (mapV (X.map storeL))) := Lib.hid (ownsMap_same HM3.out (HE6.out.block mb (by omega) (fun e => hmb.2.2 (Option.some.inj e))))
          have hz6 : N ≤ W6.heap.size := Nat.le_trans hN3 HE6.out.size
          have HFO := Lib.hid (followsL_iff.1 HFW.out.symm)
          have hnum := HFO.out.2.1
          have hf1 : 1 ≤ f := by have h1 := HFY.out.1; have h2 := HFL.out.1; omega
          obtain ⟨f', rfl⟩ : ∃ f', f = f' + 1 := ⟨f - 1, by omega⟩
          go_roundw
          case rel => exact ⟨pre ++ [x], y, f', Lib.hid (by rw [← HP.out, backX_some (show beforeX X x = some y by rw [HBF.out]; rfl), List.append_assoc]; rfl), hym, by have h1 := HFY.out.1; omega, HB6, hcm6, HM6, Lib.hid (HJ.out _ _ _ HJ3.out HE6.out), hz6⟩
          case measure => rw [numAt_eq HB6.out, numAt_eq HB.out]; have h1 := HFY.out.1; omega
    · gi_wp2
      go_end0
      exact ⟨⟨_, rfl⟩, .inr ⟨pre ++ [x], (backX X (f + 1) x).drop 1, by rw [← HP.out, List.append_assoc]; congr 1, hJx3⟩⟩
end Go.Proofs.YtaakacahblndcaaGreat

namespace Go.Proofs.YtaakacahblndcaaGreat
open Go.RowKit Go.Sort
attribute [local go_sem ↓] rowLoad_stv rowStore_stv rowBuild_stv rowLoad_lkv rowStore_lkv

/-- No other link has the number of the one at a place. -/
def aloneL (ls : List St) (k : Nat) (x : St) : Bool := decide (k + 1 = ls.length) || (match ls[k + 1]? with
  | none => true
  | some z => z.number != x.number)
/-- The link follows the one ahead, which is no resignation. -/
def behindL (ls : List St) (x : St) : Nat → Bool
  | 0 => true
  | j + 1 => match ls[j]? with
    | none => true
    | some y => followsL y x && y.kind != 3
/-- The link at a place counts where those ahead of it do. -/
def countsAt (ls : List St) (k : Nat) : Bool := match ls[k]? with
  | none => false
  | some x => aloneL ls k x && decide (x.number = (k : Int)) && behindL ls x k
/-- How many links count. -/
def countN (ls : List St) : Nat := ((List.range ls.length).takeWhile fun k => countsAt ls k).length
theorem numB_le {s : St} (h : checkI s = 0) : 0 ≤ s.number ∧ s.number ≤ 200 := by
  have := (checkI_right h).num
  simp only [numB, Bool.and_eq_true] at this
  have := inB_iff.1 this.1.1.1.1.1
  omega

end Go.Proofs.YtaakacahblndcaaGreat

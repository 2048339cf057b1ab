/- chain.links: a contract, no statement of the seat. | Links in memory, one by one; a row of cells stored as one step of a region. No statement of the seat. | chain.Fork: a contract, no statement of the seat. | fork.From: the number of an author's fork, or -1. No statement of the seat. | Rows of cells loaded, and laid as the one element of a slice, as one step of a region. No statement of the seat. | fork.Find: the forks of all authors. No statement of the seat. | fork.Guilty: the authors with a fork. No statement of the seat. -/
import Derived.Test.YtoeklgbajggndaaGreatMg08
import Derived.Test.YtoeklgbajggndaaGreatMg01
import Derived.Test.YtoeklgbajggndaaGreatCheckPG
import Derived.Test.YtoeklgbajggndaaGreatMg11
import Derived.Test.YtoeklgbajggndaaGreatMg06
import Derived.Great.BuildSlice
import Derived.Laws.ResultCell
import Derived.Deep.RegionHeld3
import Derived.Test.YtoeklgbajggndaaGreatMg03
namespace Go.Proofs.YtoeklgbajggndaaGreat
open Go.RowKit Go.Sort

/-- A statement of the author's that is right. -/
def okB (a : Int) (s : St) : Bool := decide (s.author = a) && decide (checkI s = 0) && sealedB s
theorem okB_iff {a : Int} {s : St} : okB a s = true ↔ s.author = a ∧ checkI s = 0 ∧ sealedB s = true := by
  simp only [okB, Bool.and_eq_true, decide_eq_true_eq, and_assoc]
/-- How links are held: a statement, its digest behind it. -/
def linkRep : Rep St where
  k := 14
  R := fun P w cs s => ∃ l p, cs = linkE (s, l, p) ∧ Lies P w (s, l, p)
  len := fun ⟨l, p, h, _⟩ => by subst h; exact linkE_len _
  one := fun ⟨l, p, h, _⟩ => by subst h; exact one_linkE _
  keep := fun ⟨l, p, h, hs⟩ hx => ⟨l, p, h, hs.keep hx⟩
  mono := fun ⟨l, p, h, hs⟩ hx => ⟨l, p, h, hs.mono hx⟩
def sameDigS (s t : St) : Bool := s.dig.toList == t.dig.toList
/-- What stays of a row of which neighbours with one digest are dropped. -/
def cptL (d : List St) : List St := cpt sameDigS d.toArray d.length
/-- ls: the right statements of an author, sorted by number and digest, neighbours with one digest dropped. -/
def LinksR (a : Int) (l ls : List St) : Prop := ∃ d : List St, d.Perm (l.filter (okB a)) ∧ (∀ (i j : Nat) (x y : St), i < j → d[i]? = some x → d[j]? = some y → ltNDs y x = false) ∧ ls = cptL d
theorem link_sl {P : Nat → Prop} {w : World} {g : Nat} {xs : List (St × Sv × Sv)} (hP : P g) (h : HoldsK linkE 14 w g 0 xs.toArray) (hl : ∀ x ∈ xs, Lies P w x) : SlAt linkRep P w (some ⟨g, 0, none⟩) (xs.map (·.1)) := fun i hi => by
  have hi' : i < xs.length := by simpa using hi
  refine ⟨g, 0, linkE xs[i], rfl, hP, ?_, xs[i].2.1, xs[i].2.2, by simp, by simpa using hl _ (List.getElem_mem hi')⟩
  have := holdsK_range linkE_len h i (by simpa using hi')
  rwa [getElem!_pos xs.toArray i hi', List.getElem_toArray] at this
theorem linksR_of {a : Int} {l : List St} {acc : List (St × Sv × Sv)} {d' : Array (St × Sv × Sv)} (h : acc.map (·.1) = l.filter (okB a)) (hp : d'.toList.Perm acc) (hs : SortedIn (ltOf cmpND) 0 d'.size d') (n : Nat) (hn : d'.size = n) : LinksR a l ((cpt sameDig d' n).map (·.1)) := by
  subst hn
  refine ⟨d'.toList.map (·.1), by rw [← h]; exact hp.map _, fun i j x y hij hi hj => ?_, ?_⟩
  · have hj' : j < d'.size := by have := (List.getElem?_eq_some_iff.1 hj).1; simpa using this
    have hi' : i < d'.size := by omega
    have k := hs i j (Nat.zero_le _) hij hj'
    rw [ltND_of, getElem!_pos d' i hi', getElem!_pos d' j hj'] at k
    simp only [List.getElem?_map, Array.getElem?_toList, Array.getElem?_eq_getElem hi', Array.getElem?_eq_getElem hj', Option.map_some, Option.some.injEq] at hi hj
    rw [← hi, ← hj]; exact k
  · rw [cpt_map (fun x : St × Sv × Sv => x.1) (eq := sameDig) (eq' := sameDigS) (fun _ _ => rfl) d' d'.size (Nat.le_refl _)]
    rw [show d'.map (fun x : St × Sv × Sv => x.1) = (d'.toList.map (fun x => x.1)).toArray by apply Array.ext'; simp]
    simp only [cptL, List.length_map, Array.length_toList]
theorem LinksR.mem {a : Int} {l ls : List St} (h : LinksR a l ls) : ∀ s ∈ ls, s ∈ l := fun s hs => by
  obtain ⟨d, hp, _, rfl⟩ := h
  have h1 : s ∈ d := by simpa using cpt_mem d.length (by simp) hs
  exact (List.mem_filter.1 (hp.mem_iff.1 h1)).1
theorem LinksR.ok {a : Int} {l ls : List St} (h : LinksR a l ls) : ∀ s ∈ ls, okB a s = true := fun s hs => by
  obtain ⟨d, hp, _, rfl⟩ := h
  have h1 : s ∈ d := by simpa using cpt_mem d.length (by simp) hs
  exact (List.mem_filter.1 (hp.mem_iff.1 h1)).2
theorem Tryz.infoLink : (Tryz.prog.info? 107).map (fun i => (i.zero, i.size, i.bytes)) = some (some (.agg #[.int .i64 0, .int .i64 0, .string ⟨#[]⟩, .int .i64 0, .int .i64 0, .int .i64 0, .int .i64 0, .int .i64 0, .slice none 0 0, .slice none 0 0, .string ⟨#[]⟩, .int .i64 0, .string ⟨#[]⟩, .string ⟨#[]⟩]), 14, 176) := by kernel_rfl

set_option maxHeartbeats 16000000 in
set_option maxRecDepth 100000 in
theorem links_any {P : Nat → Prop} (v : Value) (l : List St) (a : Int) (w : World) (hv : Sl stRep P w v l) (hm : l.length ≤ 100000) (hL : LightL 9223372036854775807 l) :
    Calls Tryz.prog 82 #[.int .i64 a, v] w fun e w' => ∃ u ls, e = .returned u ∧ LinksR a l ls ∧ Sl linkRep (fun b => P b ∨ w.heap.size ≤ b) w' u ls ∧ ls.length ≤ l.length ∧ Ex w.heap.size none w w' := by
  obtain ⟨ao, cap, rfl, hx⟩ := hv
  have HX := Lib.hid hx
  have HLL := Lib.hid hL
  clear hx hL
  go_enter Tryz.func82, Tryz.ntmps82
  go_wp2
  go_loopw [5, 10] (fun v i wr => ∃ (k n : Nat) (ro : Option Addr) (rc : Nat) (acc : List (St × Sv × Sv)), k ≤ l.length ∧ i = .int .i64 k ∧ v = .slice ro n rc ∧ Hid (acc.map (·.1) = (l.take k).filter (okB a) ∧ acc.length = n ∧ n ≤ k ∧ ∀ x ∈ acc, Lies P w x) ∧ OwnE linkE 14 107 wr w.heap.size ro rc acc ∧ Ex w.heap.size none w wr) (fun _ i _ => l.length - (intOf i).toNat)
  case atStart => exact ⟨0, 0, none, 0, [], by omega, rfl, rfl, Lib.hid ⟨by simp, rfl, by omega, fun x hx => by cases hx⟩, OwnE.nil _ _ _ _ _, Ex.refl _ _ _⟩
  case round =>
    obtain ⟨k, n, ro, rc, acc, hk, rfl, rfl, HA, hown, hex⟩ := hrel
    have hsz := hex.size
    have HEX := Lib.hid hex
    have HO := Lib.hid hown
    clear hown
    by_cases hlt : k < l.length
    · have hltI : (k : Int) < (l.length : Int) := by omega
      have hnk : n ≤ k := HA.out.2.2.1
      obtain ⟨b, off, s, ⟨lo, ln, lc⟩, ⟨po, pn, pc⟩, rfl, _, hls0, hr, HXs⟩ := st_get HX.out k hlt
      have HLG : Hid (s.list.length ≤ 9223372036854775807 ∧ s.pins.length ≤ 9223372036854775807) := Lib.hid (HLL.out s (List.mem_of_getElem? HXs.out))
      have HLN : Hid (ln = s.list.length) := by obtain ⟨⟨_, _, e, _⟩, _⟩ := hls0; simp only [Sv.v] at e; cases e; exact rfl
      have HPN : Hid (pn = s.pins.length) := by obtain ⟨_, ⟨_, _, e, _⟩⟩ := hls0; simp only [Sv.v] at e; cases e; exact rfl
      have hc := st_at (rangeAt_keep hr (hex.block b (rangeAt_lt hr (by rw [stE_len]; omega)) (by simp)))
      simp only [Sv.v] at hc
      obtain ⟨c0, c1, c2, c3, c4, c5, c6, c7, c8, c9, c10, c11, c12⟩ := hc
      have HLS0 := Lib.hid hls0
      clear hls0 hr hex
      go_upto_region 5 with (fail)
      obtain ⟨ws, hws⟩ : ∃ ws : World, ws = wr.alloc (.cells #[.int .i64 s.author, .int .i64 s.number, .string s.prev, .int .i64 s.time, .int .i64 s.kind, .int .i64 s.a, .int .i64 s.b, .int .i64 s.c, .slice lo ln lc, .slice po pn pc, .string s.body, .int .i64 s.key, .string s.dig] 27) := ⟨_, rfl⟩
      have HEs : Hid (Ex wr.heap.size none wr ws) := Lib.hid (by rw [hws]; exact Ex.new wr _)
      have hzs : ws.heap.size = wr.heap.size + 1 := by rw [hws]; simp
      have HBs : Hid (ws.heap[wr.heap.size]? = some (.cells #[.int .i64 s.author, .int .i64 s.number, .string s.prev, .int .i64 s.time, .int .i64 s.kind, .int .i64 s.a, .int .i64 s.b, .int .i64 s.c, .slice lo ln lc, .slice po pn pc, .string s.body, .int .i64 s.key, .string s.dig] 27 (0, 0))) := Lib.hid (by rw [hws]; exact heap_alloc_new wr _)
      have HQ : Hid (∀ w', Ex ws.heap.size none ws w' → w'.cell? ⟨wr.heap.size, 0, none⟩ = some (.int .i64 s.author) ∧ w'.cell? ⟨wr.heap.size, 1, none⟩ = some (.int .i64 s.number) ∧ w'.cell? ⟨wr.heap.size, 2, none⟩ = some (.string s.prev) ∧ w'.cell? ⟨wr.heap.size, 3, none⟩ = some (.int .i64 s.time) ∧ w'.cell? ⟨wr.heap.size, 4, none⟩ = some (.int .i64 s.kind) ∧ w'.cell? ⟨wr.heap.size, 5, none⟩ = some (.int .i64 s.a) ∧ w'.cell? ⟨wr.heap.size, 6, none⟩ = some (.int .i64 s.b) ∧ w'.cell? ⟨wr.heap.size, 7, none⟩ = some (.int .i64 s.c) ∧ w'.cell? ⟨wr.heap.size, 8, none⟩ = some (.slice lo ln lc) ∧ w'.cell? ⟨wr.heap.size, 9, none⟩ = some (.slice po pn pc) ∧ w'.cell? ⟨wr.heap.size, 10, none⟩ = some (.string s.body) ∧ w'.cell? ⟨wr.heap.size, 11, none⟩ = some (.int .i64 s.key) ∧ w'.cell? ⟨wr.heap.size, 12, none⟩ = some (.string s.dig)) := Lib.hid (fun w' h => (st_block ((h.block wr.heap.size (by omega) (by simp)).trans HBs.out)).1)
      have HLS : Hid (∀ w', Ex ws.heap.size none ws w' → Lies P w' (s, ⟨lo, ln, lc⟩, ⟨po, pn, pc⟩)) := Lib.hid (fun w' h => HLS0.out.keep fun b _ hb => (h.block b (by omega) (by simp)).trans ((HEs.out.block b (by omega) (by simp)).trans (HEX.out.block b hb (by simp))))
      obtain ⟨q, hq0⟩ : ∃ q, q = checkI s := ⟨_, rfl⟩
      have HCQ : Hid (checkI s = q) := Lib.hid hq0.symm
      have HCK : Hid (∀ w', Ex ws.heap.size none ws w' → Calls Tryz.prog 26 #[.agg #[.int .i64 s.author, .int .i64 s.number, .string s.prev, .int .i64 s.time, .int .i64 s.kind, .int .i64 s.a, .int .i64 s.b, .int .i64 s.c, .slice lo ln lc, .slice po pn pc, .string s.body, .int .i64 s.key, .string s.dig]] w' fun e w'' => e = .returned (.int .i64 q) ∧ Ex w'.heap.size none w' w'') := Lib.hid (fun w' h => by rw [hq0]; exact checkP_any s lo po ln lc pn pc w' (HLS.out w' h) (by rw [HLN.out, HPN.out]; exact HLG.out))
      clear hq0
      rw [← hws]
      clear hws c0 c1 c2 c3 c4 c5 c6 c7 c8 c9 c10 c11 c12
      obtain ⟨d0, d1, d2, d3, d4, d5, d6, d7, d8, d9, d10, d11, d12⟩ := HQ.out _ (Ex.refl _ _ ws)
      by_cases t1 : s.author = a
      case neg =>
        have k1 : (s.author == a) = false := by simpa using t1
        have HNO : Hid (okB a s = false) := Lib.hid (by simp [okB, t1])
        clear t1
        go_wp2_with (fail)
        go_roundw
        case rel => exact ⟨k + 1, n, ro, rc, acc, by omega, by go_num, rfl, Lib.hid ⟨by rw [filter_no HXs.out HNO.out]; exact HA.out.1, HA.out.2.1, by have := HA.out.2.2.1; omega, HA.out.2.2.2⟩, HO.out.keep (HEs.out.trans (Ex.refl ws.heap.size none ws) (by omega) (by simp)) (Nat.le_refl _) (by simp), HEX.out.trans (HEs.out.trans (Ex.refl ws.heap.size none ws) (by omega) (by simp)) hsz (by simp)⟩
        case measure => simp [intOf] <;> omega
      have k1 : (s.author == a) = true := by simpa using t1
      have HT1 := Lib.hid t1
      clear t1
      by_cases t2 : q = 0
      case neg =>
        have k2 : (q == 0) = false := by simpa using t2
        have HNO : Hid (okB a s = false) := Lib.hid (by simp [okB, HCQ.out, t2])
        clear t2
        go_wp2_with (first
          | (go_at_call 26
             refine (HCK.out _ (Ex.refl _ _ ws)).mono ?_
             rintro e w7 ⟨rfl, hex7⟩
             have HE7 : Hid (Ex ws.heap.size none ws w7) := Lib.hid hex7
             have hz7 : ws.heap.size ≤ w7.heap.size := hex7.size
             clear hex7 d0 d1 d2 d3 d4 d5 d6 d7 d8 d9 d10 d11 d12
             obtain ⟨d0, d1, d2, d3, d4, d5, d6, d7, d8, d9, d10, d11, d12⟩ := HQ.out _ HE7.out)
          | fail)
        go_roundw
        case rel => exact ⟨k + 1, n, ro, rc, acc, by omega, by go_num, rfl, Lib.hid ⟨by rw [filter_no HXs.out HNO.out]; exact HA.out.1, HA.out.2.1, by have := HA.out.2.2.1; omega, HA.out.2.2.2⟩, HO.out.keep (HEs.out.trans HE7.out (by omega) (by simp)) (Nat.le_refl _) (by simp), HEX.out.trans (HEs.out.trans HE7.out (by omega) (by simp)) hsz (by simp)⟩
        case measure => simp [intOf] <;> omega
      have k2 : (q == 0) = true := by simpa using t2
      have HT2 : Hid (checkI s = 0) := Lib.hid (HCQ.out.trans t2)
      have HTM := Lib.hid (checkI_tame HT2.out)
      clear t2
      cases t3 : sealedB s with
      | false =>
        have HNO : Hid (okB a s = false) := Lib.hid (by simp [okB, t3])
        have HSL : Hid (∀ w', Ex ws.heap.size none ws w' → Calls Tryz.prog 27 #[.agg #[.int .i64 s.author, .int .i64 s.number, .string s.prev, .int .i64 s.time, .int .i64 s.kind, .int .i64 s.a, .int .i64 s.b, .int .i64 s.c, .slice lo ln lc, .slice po pn pc, .string s.body, .int .i64 s.key, .string s.dig]] w' fun e w'' => e = .returned (.bool false) ∧ Ex w'.heap.size none w' w'') := Lib.hid (fun w' h => asB (sealedP_any s lo po ln lc pn pc w' (HLS.out w' h) HTM.out) t3)
        clear t3
        go_wp2_with (first
          | (go_at_call 26
             refine (HCK.out _ (Ex.refl _ _ ws)).mono ?_
             rintro e w7 ⟨rfl, hex7⟩
             have HE7 : Hid (Ex ws.heap.size none ws w7) := Lib.hid hex7
             have hz7 : ws.heap.size ≤ w7.heap.size := hex7.size
             clear hex7 d0 d1 d2 d3 d4 d5 d6 d7 d8 d9 d10 d11 d12
             obtain ⟨d0, d1, d2, d3, d4, d5, d6, d7, d8, d9, d10, d11, d12⟩ := HQ.out _ HE7.out)
          | (go_at_call 27
             refine (HSL.out _ HE7.out).mono ?_
             rintro e w8 ⟨rfl, hex8⟩
             have HE8 : Hid (Ex ws.heap.size none ws w8) := Lib.hid (HE7.out.trans hex8 hz7 (by simp))
             have hz8 : ws.heap.size ≤ w8.heap.size := HE8.out.size
             clear hex8 d0 d1 d2 d3 d4 d5 d6 d7 d8 d9 d10 d11 d12
             obtain ⟨d0, d1, d2, d3, d4, d5, d6, d7, d8, d9, d10, d11, d12⟩ := HQ.out _ HE8.out)
          | fail)
        go_roundw
        case rel => exact ⟨k + 1, n, ro, rc, acc, by omega, by go_num, rfl, Lib.hid ⟨by rw [filter_no HXs.out HNO.out]; exact HA.out.1, HA.out.2.1, by have := HA.out.2.2.1; omega, HA.out.2.2.2⟩, HO.out.keep (HEs.out.trans HE8.out (by omega) (by simp)) (Nat.le_refl _) (by simp), HEX.out.trans (HEs.out.trans HE8.out (by omega) (by simp)) hsz (by simp)⟩
        case measure => simp [intOf] <;> omega
      | true =>
        have HYES : Hid (okB a s = true) := Lib.hid (okB_iff.2 ⟨HT1.out, HT2.out, t3⟩)
        have HSL : Hid (∀ w', Ex ws.heap.size none ws w' → Calls Tryz.prog 27 #[.agg #[.int .i64 s.author, .int .i64 s.number, .string s.prev, .int .i64 s.time, .int .i64 s.kind, .int .i64 s.a, .int .i64 s.b, .int .i64 s.c, .slice lo ln lc, .slice po pn pc, .string s.body, .int .i64 s.key, .string s.dig]] w' fun e w'' => e = .returned (.bool true) ∧ Ex w'.heap.size none w' w'') := Lib.hid (fun w' h => asB (sealedP_any s lo po ln lc pn pc w' (HLS.out w' h) HTM.out) t3)
        clear t3
        have HAL : Hid (acc.length = n) := Lib.hid HA.out.2.1
        go_wp2_with (first
          | (go_at_call 26
             refine (HCK.out _ (Ex.refl _ _ ws)).mono ?_
             rintro e w7 ⟨rfl, hex7⟩
             have HE7 : Hid (Ex ws.heap.size none ws w7) := Lib.hid hex7
             have hz7 : ws.heap.size ≤ w7.heap.size := hex7.size
             clear hex7 d0 d1 d2 d3 d4 d5 d6 d7 d8 d9 d10 d11 d12
             obtain ⟨d0, d1, d2, d3, d4, d5, d6, d7, d8, d9, d10, d11, d12⟩ := HQ.out _ HE7.out)
          | (go_at_call 27
             refine (HSL.out _ HE7.out).mono ?_
             rintro e w8 ⟨rfl, hex8⟩
             have HE8 : Hid (Ex ws.heap.size none ws w8) := Lib.hid (HE7.out.trans hex8 hz7 (by simp))
             have hz8 : ws.heap.size ≤ w8.heap.size := HE8.out.size
             clear hex8 d0 d1 d2 d3 d4 d5 d6 d7 d8 d9 d10 d11 d12
             obtain ⟨d0, d1, d2, d3, d4, d5, d6, d7, d8, d9, d10, d11, d12⟩ := HQ.out _ HE8.out)
          | (at_builtin; refine wpList_appE2 rfl (.tmp 27) (.tmp 33) _ 107 (by rfl) Tryz.underlying104 _ 14 176 Tryz.infoLink rfl (by decide) (by decide) linkE linkE_len one_linkE w.heap.size ro rc n acc HAL.out (by rfl) (some ⟨w8.heap.size, 0, none⟩) 1 1 (by rfl) [(s, ⟨lo, ln, lc⟩, ⟨po, pn, pc⟩)] rfl ((HO.out.keep (HEs.out.trans HE8.out (by omega) (by simp)) (Nat.le_refl _) (by simp)).keep (Ex.new w8 _) (Nat.le_refl _) (by simp)) (lit_cells (by rfl)) (by omega) (by simp; omega) (n + 1) rfl ?_; intro ro2 rc2 w6 hown6 hex6 _ _)
          | fail)
        have HO6 := Lib.hid hown6
        have HE6 : Hid (Ex w.heap.size none w w6) := Lib.hid (((HEX.out.trans (HEs.out.trans HE8.out (by omega) (by simp)) hsz (by simp)).trans (Ex.new w8 _) (by omega) (by simp)).trans hex6 (Nat.le_refl _) (by simp))
        clear hown6 hex6
        go_roundw
        case rel => exact ⟨k + 1, n + 1, ro2, rc2, acc ++ [(s, ⟨lo, ln, lc⟩, ⟨po, pn, pc⟩)], by omega, by go_num, rfl, Lib.hid ⟨by rw [filter_yes HXs.out HYES.out, List.map_append, HA.out.1]; rfl, by rw [List.length_append, HAL.out]; rfl, by omega, fun x hx => by
          rcases List.mem_append.1 hx with h | h
          · exact HA.out.2.2.2 x h
          · rw [List.mem_singleton.1 h]; exact HLS0.out⟩, HO6.out, HE6.out⟩
        case measure => simp [intOf] <;> omega
    · obtain rfl : k = l.length := by omega
      have hnk : n ≤ l.length := HA.out.2.2.1
      have HF : Hid (acc.map (·.1) = l.filter (okB a)) := Lib.hid (by have := HA.out.1; rwa [List.take_length] at this)
      have HAL : Hid (acc.length = n) := Lib.hid HA.out.2.1
      clear hex
      rcases HO.out.cases with ⟨e1, e2, e3⟩ | ⟨g, e1, hg1, hg2, hg3⟩
      · subst e1 e2
        have hn0 : n = 0 := by rw [← HAL.out, e3]; rfl
        have HLR : Hid (LinksR a l []) := Lib.hid (by
          have h := HF.out
          rw [e3] at h
          exact ⟨[], by rw [← h]; exact List.Perm.refl _, fun i j x y _ h => by simp at h, rfl⟩)
        clear e3
        subst hn0
        go_wp2_with (first
          | (go_at_call 128; refine (sortLink_none _ _ _ _).mono ?_; rintro e w' ⟨rfl, rfl⟩)
          | (go_at_call 130; refine (compactLink_none _ _ _ _).mono ?_; rintro e w' ⟨rfl, rfl⟩)
          | fail)
        go_ret
        exact ⟨_, [], rfl, HLR.out, Sl.nil _ _, by simp, HEX.out⟩
      · subst e1
        have HH : Hid (HoldsK linkE 14 wr g 0 acc.toArray) := Lib.hid (HO.out.holds linkE_len)
        have hcap : n ≤ rc := by rw [← HAL.out]; exact hg3
        have HSZ : Hid (acc.toArray.size = n) := Lib.hid (by simpa using HAL.out)
        go_wp2_with (first
          | (go_at_call 128
             refine (sortLink_any g 0 rc n acc.toArray wr HH.out hg2 HSZ.out (by omega)).mono ?_
             rintro e w1 ⟨rfl, d', hH1, hd1, hp1, hs1, hex1⟩
             have HD : Hid (HoldsK linkE 14 w1 g 0 d' ∧ d'.size = n ∧ d'.toList.Perm acc ∧ SortedIn (ltOf cmpND) 0 d'.size d' ∧ Ex wr.heap.size (some g) wr w1) := Lib.hid ⟨hH1, hd1, by simpa using hp1, hs1, hex1⟩
             have hz1 : wr.heap.size ≤ w1.heap.size := hex1.size
             clear hH1 hd1 hp1 hs1 hex1)
          | (go_at_call 130
             refine (compactLinks_any g rc n d' w1 HD.out.1 (by omega) HD.out.2.1 (by omega) hcap).mono ?_
             rintro e w2 ⟨rfl, hH2, hex2⟩
             have HC : Hid (HoldsK linkE 14 w2 g 0 (cpt sameDig d' n).toArray ∧ Ex w1.heap.size (some g) w1 w2) := Lib.hid ⟨hH2, hex2⟩
             clear hH2 hex2)
          | fail)
        go_ret
        have hE : Ex w.heap.size none w w2 := HEX.out.trans (HD.out.2.2.2.2.trans HC.out.2 hz1 (fun q h _ => h)) hsz (fun q h hq => by cases h; omega)
        refine ⟨.slice (some ⟨g, 0, none⟩) (cpt sameDig d' n).length rc, (cpt sameDig d' n).map (·.1), by rfl, linksR_of HF.out HD.out.2.2.1 HD.out.2.2.2.1 n HD.out.2.1, ⟨some ⟨g, 0, none⟩, rc, by rw [List.length_map], link_sl (.inr hg1) HC.out.1 fun x hx => ?_⟩, ?_, hE⟩
        · have hmem : x ∈ acc := HD.out.2.2.1.mem_iff.1 (cpt_mem n (by rw [HD.out.2.1]; exact Nat.le_refl _) hx)
          exact (HA.out.2.2.2 x hmem).keep (fun b _ hb => hE.block b hb (by simp)) |>.mono fun _ hb _ => .inl hb
        · have := cpt_le sameDig d' n
          rw [List.length_map]; omega
end Go.Proofs.YtoeklgbajggndaaGreat

namespace Go.Proofs.YtoeklgbajggndaaGreat
open Go.RowKit Go.Sort

theorem link_get {P : Nat → Prop} {w : World} {ao : Option Addr} {xs : List St} (h : SlAt linkRep P w ao xs) (i : Nat) (hi : i < xs.length) : ∃ b off s l p, ao = some ⟨b, off, none⟩ ∧ P b ∧ Lies P w (s, l, p) ∧ w.rangeAt b (off + i * 14) (linkE (s, l, p)) ∧ Hid (xs[i]? = some s) := by
  obtain ⟨b, off, cs, s, e, hp, hr, ⟨l, p, rfl, hl⟩, hx⟩ := h.get i hi
  exact ⟨b, off, s, l, p, e, hp, hl, hr, hx⟩
theorem link_at {w : World} {b o : Nat} {s : St} {lo po : Option Addr} {ln lc pn pc : Nat} (h : w.rangeAt b o (linkE (s, ⟨lo, ln, lc⟩, ⟨po, pn, pc⟩))) :
    w.cell? ⟨b, o, none⟩ = some (.int .i64 s.author) ∧ w.cell? ⟨b, o + 1, none⟩ = some (.int .i64 s.number) ∧ w.cell? ⟨b, o + 2, none⟩ = some (.string s.prev) ∧ w.cell? ⟨b, o + 3, none⟩ = some (.int .i64 s.time) ∧ w.cell? ⟨b, o + 4, none⟩ = some (.int .i64 s.kind) ∧ w.cell? ⟨b, o + 5, none⟩ = some (.int .i64 s.a) ∧ w.cell? ⟨b, o + 6, none⟩ = some (.int .i64 s.b) ∧ w.cell? ⟨b, o + 7, none⟩ = some (.int .i64 s.c) ∧ w.cell? ⟨b, o + 8, none⟩ = some (.slice lo ln lc) ∧ w.cell? ⟨b, o + 9, none⟩ = some (.slice po pn pc) ∧ w.cell? ⟨b, o + 10, none⟩ = some (.string s.body) ∧ w.cell? ⟨b, o + 11, none⟩ = some (.int .i64 s.key) ∧ w.cell? ⟨b, o + 12, none⟩ = some (.string s.dig) ∧ w.cell? ⟨b, o + 13, none⟩ = some (.string s.dig) :=
  ⟨h 0 _ rfl, h 1 _ rfl, h 2 _ rfl, h 3 _ rfl, h 4 _ rfl, h 5 _ rfl, h 6 _ rfl, h 7 _ rfl, h 8 _ rfl, h 9 _ rfl, h 10 _ rfl, h 11 _ rfl, h 12 _ rfl, h 13 _ rfl⟩
theorem rowStore_fork (a : Addr) (v : Value) : storeVar 29 a v = rowStore 29 a v := rfl
theorem Tryz.sizeFork : (Tryz.prog.info? 29).map (·.size) = some 26 := by kernel_rfl
/-- The first two neighbours with one number. -/
def forkF : List St → Option (St × St)
  | s :: t :: r => if s.number = t.number then some (s, t) else forkF (t :: r)
  | _ => none
theorem forkF_some {ls : List St} : ∀ {k : Nat} {s t : St}, (∀ j x y, j < k → ls[j]? = some x → ls[j + 1]? = some y → ¬ x.number = y.number) → ls[k]? = some s → ls[k + 1]? = some t → s.number = t.number → forkF ls = some (s, t) := by
  induction ls with
  | nil => intro k s t _ h; simp at h
  | cons a r ih =>
    intro k s t hno hs ht he
    match r, k with
    | [], 0 => simp at ht
    | [], k + 1 => simp at hs
    | b :: r, 0 =>
      simp only [List.getElem?_cons_zero, List.getElem?_cons_succ, Option.some.injEq] at hs ht
      subst hs ht
      simp [forkF, he]
    | b :: r, k + 1 =>
      have h0 := hno 0 a b (by omega) rfl rfl
      unfold forkF
      rw [if_neg h0]
      exact ih (fun j x y hj hx hy => hno (j + 1) x y (by omega) hx hy) hs ht he
theorem forkF_none {ls : List St} : (∀ j x y, ls[j]? = some x → ls[j + 1]? = some y → ¬ x.number = y.number) → forkF ls = none := by
  induction ls with
  | nil => exact fun _ => rfl
  | cons a r ih =>
    intro hno
    match r with
    | [] => rfl
    | b :: r =>
      unfold forkF
      rw [if_neg (hno 0 a b rfl rfl)]
      exact ih fun j x y hx hy => hno (j + 1) x y hx hy
/-- The cells of a fork: of none: all nought. -/
def ForkC (w : World) (base : Nat) (cs : Array Value) : Option (St × St) → Prop
  | none => cs = #[.int .i64 0, .int .i64 0, .string ⟨#[]⟩, .int .i64 0, .int .i64 0, .int .i64 0, .int .i64 0, .int .i64 0, .slice none 0 0, .slice none 0 0, .string ⟨#[]⟩, .int .i64 0, .string ⟨#[]⟩, .int .i64 0, .int .i64 0, .string ⟨#[]⟩, .int .i64 0, .int .i64 0, .int .i64 0, .int .i64 0, .int .i64 0, .slice none 0 0, .slice none 0 0, .string ⟨#[]⟩, .int .i64 0, .string ⟨#[]⟩]
  | some (s, t) => ∃ (la : Option Addr) (na ca : Nat) (pa : Option Addr) (np cp : Nat) (lb : Option Addr) (nb cb : Nat) (pb : Option Addr) (nq cq : Nat), cs = #[.int .i64 s.author, .int .i64 s.number, .string s.prev, .int .i64 s.time, .int .i64 s.kind, .int .i64 s.a, .int .i64 s.b, .int .i64 s.c, .slice la na ca, .slice pa np cp, .string s.body, .int .i64 s.key, .string s.dig, .int .i64 t.author, .int .i64 t.number, .string t.prev, .int .i64 t.time, .int .i64 t.kind, .int .i64 t.a, .int .i64 t.b, .int .i64 t.c, .slice lb nb cb, .slice pb nq cq, .string t.body, .int .i64 t.key, .string t.dig] ∧ Lies (fun b => base ≤ b) w (s, ⟨la, na, ca⟩, ⟨pa, np, cp⟩) ∧ Lies (fun b => base ≤ b) w (t, ⟨lb, nb, cb⟩, ⟨pb, nq, cq⟩)
theorem ForkC.size {w : World} {base : Nat} {cs : Array Value} {r : Option (St × St)} (h : ForkC w base cs r) : cs.size = 26 := by
  match r, h with
  | none, h => rw [show cs = _ from h]; rfl
  | some (s, t), ⟨_, _, _, _, _, _, _, _, _, _, _, _, h, _⟩ => rw [h]; rfl
theorem ForkC.one {w : World} {base : Nat} {cs : Array Value} {r : Option (St × St)} (h : ForkC w base cs r) : cs.all (·.oneCell') = true := by
  match r, h with
  | none, h => rw [show cs = _ from h]; simp [Value.oneCell']
  | some (s, t), ⟨_, _, _, _, _, _, _, _, _, _, _, _, h, _⟩ => rw [h]; simp [Value.oneCell']
end Go.Proofs.YtoeklgbajggndaaGreat

namespace Go.Proofs.YtoeklgbajggndaaGreat
open Go.RowKit Go.Sort
attribute [local go_sem ↓] rowStore_fork

set_option maxHeartbeats 16000000 in
set_option maxRecDepth 100000 in
theorem forkC_any {P : Nat → Prop} (v : Value) (l : List St) (a : Int) (w : World) (hv : Sl stRep P w v l) (hm : l.length ≤ 100000) (hL : LightL 1000000 l) :
    Calls Tryz.prog 39 #[.int .i64 a, v] w fun e w' => ∃ ls, LinksR a l ls ∧ ∃ cs, e = .returned (.tuple #[.agg cs, .bool (forkF ls).isSome]) ∧ ForkC w' w.heap.size cs (forkF ls) ∧ Ex w.heap.size none w w' := by
  have HX := Lib.hid (hv.mono (P' := fun b => b < w.heap.size) (by decide) fun b _ hb => hb)
  have HLL := Lib.hid hL
  clear hv hL
  obtain ⟨w0, hw0⟩ : ∃ w0 : World, w0 = w.alloc (.cells #[.int .i64 0, .int .i64 0, .string ⟨#[]⟩, .int .i64 0, .int .i64 0, .int .i64 0, .int .i64 0, .int .i64 0, .slice none 0 0, .slice none 0 0, .string ⟨#[]⟩, .int .i64 0, .string ⟨#[]⟩, .int .i64 0, .int .i64 0, .string ⟨#[]⟩, .int .i64 0, .int .i64 0, .int .i64 0, .int .i64 0, .int .i64 0, .slice none 0 0, .slice none 0 0, .string ⟨#[]⟩, .int .i64 0, .string ⟨#[]⟩] 29) := ⟨_, rfl⟩
  have hz0 : w0.heap.size = w.heap.size + 1 := by rw [hw0]; simp
  have HE0 : Hid (Ex w.heap.size none w w0) := Lib.hid (by rw [hw0]; exact Ex.new w _)
  have HB0 : Hid (w0.heap[w.heap.size]? = some (.cells #[.int .i64 0, .int .i64 0, .string ⟨#[]⟩, .int .i64 0, .int .i64 0, .int .i64 0, .int .i64 0, .int .i64 0, .slice none 0 0, .slice none 0 0, .string ⟨#[]⟩, .int .i64 0, .string ⟨#[]⟩, .int .i64 0, .int .i64 0, .string ⟨#[]⟩, .int .i64 0, .int .i64 0, .int .i64 0, .int .i64 0, .int .i64 0, .slice none 0 0, .slice none 0 0, .string ⟨#[]⟩, .int .i64 0, .string ⟨#[]⟩] 29 (0, 0))) := Lib.hid (by rw [hw0]; exact heap_alloc_new w _)
  go_enter Tryz.func39, Tryz.ntmps39
  go_upto_region 1 with (fail)
  rw [← hw0]
  clear hw0
  go_wp2_with (first
    | (go_at_call 82
       refine (links_any v l a w0 (HX.out.keep (by decide) fun b _ hb => HE0.out.block b hb (by simp)) hm (fun s hs => ⟨by have := (HLL.out s hs).1; omega, by have := (HLL.out s hs).2; omega⟩)).mono ?_
       rintro e w1 ⟨u, ls, rfl, hLR, ⟨ao, cap, rfl, hsl⟩, hll, hex1⟩
       have H1 : Hid (LinksR a l ls ∧ SlAt linkRep (fun b => b < w.heap.size ∨ w0.heap.size ≤ b) w1 ao ls ∧ Ex w0.heap.size none w0 w1) := Lib.hid ⟨hLR, hsl, hex1⟩
       have hz1 : w0.heap.size ≤ w1.heap.size := hex1.size
       clear hLR hsl hex1)
    | fail)
  obtain ⟨n, hn⟩ : ∃ n, n = ls.length := ⟨_, rfl⟩
  have HN := Lib.hid hn
  rw [← hn] at hll ⊢
  clear hn
  go_loopw [7] (fun i wr => ∃ kp : Nat, i = .int .i64 ((kp : Int) + 1) ∧ (kp + 1 ≤ n ∨ kp = 0) ∧ Hid (∀ j x y, j < kp → ls[j]? = some x → ls[j + 1]? = some y → ¬ x.number = y.number) ∧ Ex w1.heap.size none w1 wr) (fun i _ => n + 1 - (intOf i).toNat)
  case atStart => exact ⟨0, by go_num, .inr rfl, Lib.hid (fun j x y hj => by omega), Ex.refl _ _ _⟩
  case round =>
    obtain ⟨kp, rfl, hkp, HNO, hex⟩ := hrel
    have hsz := hex.size
    have HRX := Lib.hid hex
    clear hex
    by_cases hlt : kp + 1 < n
    · have hltI : (kp : Int) + 1 < (n : Int) := by omega
      have p0 : (0 : Int) ≤ (kp : Int) + 1 := by omega
      have e0 : ((kp : Int) + 1).toNat = kp + 1 := by omega
      have hwp : IntKind.i64.wrap ((kp : Int) + 1 - 1) = (kp : Int) := by rw [IntKind.wrap_i64]; omega
      have hwp2 : IntKind.i64.wrap ((kp : Int) + 1 + 1) = (kp : Int) + 1 + 1 := by rw [IntKind.wrap_i64]; omega
      have hkl : (kp : Int) < (n : Int) := by omega
      have hk0 : (0 : Int) ≤ (kp : Int) := by omega
      have hwp3 : IntKind.i64.wrap (kp : Int) = (kp : Int) := by rw [IntKind.wrap_i64]; omega
      have hkn : kp < n := by omega
      obtain ⟨b, off, s, ⟨lo, ln, lc⟩, ⟨po, pn, pc⟩, hao, hPb, hls, hrs, HXs⟩ := link_get H1.out.2.1 kp (by rw [← HN.out]; omega)
      subst hao
      obtain ⟨b', off', t, ⟨lo', ln', lc'⟩, ⟨po', pn', pc'⟩, hao, _, hlt', hrt, HXt⟩ := link_get H1.out.2.1 (kp + 1) (by rw [← HN.out]; omega)
      cases hao
      have hbl := rangeAt_lt hrs (by rw [linkE_len]; omega)
      have hbw : b ≠ w.heap.size := by rcases hPb with h | h <;> omega
      have HQ : Hid (∀ w', Ex w1.heap.size (some w.heap.size) w1 w' → w'.cell? ⟨b, off + kp * 14, none⟩ = some (.int .i64 s.author) ∧ w'.cell? ⟨b, off + kp * 14 + 1, none⟩ = some (.int .i64 s.number) ∧ w'.cell? ⟨b, off + kp * 14 + 2, none⟩ = some (.string s.prev) ∧ w'.cell? ⟨b, off + kp * 14 + 3, none⟩ = some (.int .i64 s.time) ∧ w'.cell? ⟨b, off + kp * 14 + 4, none⟩ = some (.int .i64 s.kind) ∧ w'.cell? ⟨b, off + kp * 14 + 5, none⟩ = some (.int .i64 s.a) ∧ w'.cell? ⟨b, off + kp * 14 + 6, none⟩ = some (.int .i64 s.b) ∧ w'.cell? ⟨b, off + kp * 14 + 7, none⟩ = some (.int .i64 s.c) ∧ w'.cell? ⟨b, off + kp * 14 + 8, none⟩ = some (.slice lo ln lc) ∧ w'.cell? ⟨b, off + kp * 14 + 9, none⟩ = some (.slice po pn pc) ∧ w'.cell? ⟨b, off + kp * 14 + 10, none⟩ = some (.string s.body) ∧ w'.cell? ⟨b, off + kp * 14 + 11, none⟩ = some (.int .i64 s.key) ∧ w'.cell? ⟨b, off + kp * 14 + 12, none⟩ = some (.string s.dig) ∧ w'.cell? ⟨b, off + (kp + 1) * 14, none⟩ = some (.int .i64 t.author) ∧ w'.cell? ⟨b, off + (kp + 1) * 14 + 1, none⟩ = some (.int .i64 t.number) ∧ w'.cell? ⟨b, off + (kp + 1) * 14 + 2, none⟩ = some (.string t.prev) ∧ w'.cell? ⟨b, off + (kp + 1) * 14 + 3, none⟩ = some (.int .i64 t.time) ∧ w'.cell? ⟨b, off + (kp + 1) * 14 + 4, none⟩ = some (.int .i64 t.kind) ∧ w'.cell? ⟨b, off + (kp + 1) * 14 + 5, none⟩ = some (.int .i64 t.a) ∧ w'.cell? ⟨b, off + (kp + 1) * 14 + 6, none⟩ = some (.int .i64 t.b) ∧ w'.cell? ⟨b, off + (kp + 1) * 14 + 7, none⟩ = some (.int .i64 t.c) ∧ w'.cell? ⟨b, off + (kp + 1) * 14 + 8, none⟩ = some (.slice lo' ln' lc') ∧ w'.cell? ⟨b, off + (kp + 1) * 14 + 9, none⟩ = some (.slice po' pn' pc') ∧ w'.cell? ⟨b, off + (kp + 1) * 14 + 10, none⟩ = some (.string t.body) ∧ w'.cell? ⟨b, off + (kp + 1) * 14 + 11, none⟩ = some (.int .i64 t.key) ∧ w'.cell? ⟨b, off + (kp + 1) * 14 + 12, none⟩ = some (.string t.dig)) := Lib.hid (fun w' h => by
        have e := h.block b hbl (by simp; omega)
        obtain ⟨h0, h1, h2, h3, h4, h5, h6, h7, h8, h9, h10, h11, h12, _⟩ := link_at (rangeAt_keep hrs e)
        obtain ⟨g0, g1, g2, g3, g4, g5, g6, g7, g8, g9, g10, g11, g12, _⟩ := link_at (rangeAt_keep hrt e)
        exact ⟨h0, h1, h2, h3, h4, h5, h6, h7, h8, h9, h10, h11, h12, g0, g1, g2, g3, g4, g5, g6, g7, g8, g9, g10, g11, g12⟩)
      have HLS : Hid (∀ w', Ex w1.heap.size (some w.heap.size) w1 w' → Lies (fun b => b < w.heap.size ∨ w0.heap.size ≤ b) w' (s, ⟨lo, ln, lc⟩, ⟨po, pn, pc⟩) ∧ Lies (fun b => b < w.heap.size ∨ w0.heap.size ≤ b) w' (t, ⟨lo', ln', lc'⟩, ⟨po', pn', pc'⟩)) := Lib.hid (fun w' h =>
        ⟨hls.keep fun b hb hb2 => h.block b hb2 (by simp; rcases hb with h | h <;> omega), hlt'.keep fun b hb hb2 => h.block b hb2 (by simp; rcases hb with h | h <;> omega)⟩)
      have HRW : Hid (Ex w1.heap.size (some w.heap.size) w1 wr) := Lib.hid (HRX.out.weaken _)
      clear hls hrs hlt' hrt hPb
      by_cases te : s.number = t.number
      · have k1 : (t.number == s.number) = true := by simp [te]
        have HF : Hid (forkF ls = some (s, t)) := Lib.hid (forkF_some HNO.out HXs.out HXt.out te)
        have HLI : Hid ((s.list.length ≤ 1000000 ∧ s.pins.length ≤ 1000000) ∧ (t.list.length ≤ 1000000 ∧ t.pins.length ≤ 1000000)) := Lib.hid (by
          have hl := H1.out.1.mem
          exact ⟨HLL.out s (hl s (List.mem_of_getElem? HXs.out)), HLL.out t (hl t (List.mem_of_getElem? HXt.out))⟩)
        have HBR : Hid (∀ w', Ex w1.heap.size none w1 w' → w'.heap[w.heap.size]? = some (.cells #[.int .i64 0, .int .i64 0, .string ⟨#[]⟩, .int .i64 0, .int .i64 0, .int .i64 0, .int .i64 0, .int .i64 0, .slice none 0 0, .slice none 0 0, .string ⟨#[]⟩, .int .i64 0, .string ⟨#[]⟩, .int .i64 0, .int .i64 0, .string ⟨#[]⟩, .int .i64 0, .int .i64 0, .int .i64 0, .int .i64 0, .int .i64 0, .slice none 0 0, .slice none 0 0, .string ⟨#[]⟩, .int .i64 0, .string ⟨#[]⟩] 29 (0, 0))) := Lib.hid (fun w' h => (h.block _ (by omega) (by simp)).trans ((H1.out.2.2.block _ (by omega) (by simp)).trans HB0.out))
        clear te
        have hq := fun p : ExW wr => HQ.out p.w' (HRW.out.trans (p.ex.weaken _) hsz (fun q e _ => e))
        go_upto_region 5 with (fail)
        refine wp_region_quiet_ex (by kernel_rfl) (by kernel_rfl) ?_
        repeat (go_big_quiet_step (fail))
        refine wpQuiet_nil ?_
        intro _ hw'
        obtain ⟨p9, hw''⟩ := hw'
        subst hw''
        clear hq
        obtain ⟨w4, hw4⟩ : ∃ w4, w4 = p9.w' := ⟨_, rfl⟩
        have HX4 : Hid (Ex w1.heap.size none w1 w4) := Lib.hid (by rw [hw4]; exact HRX.out.trans p9.ex hsz (by simp))
        have hz4 : w1.heap.size ≤ w4.heap.size := HX4.out.size
        rw [← hw4]
        clear hw4 HRX
        have HRX : Hid (Ex w1.heap.size (some w.heap.size) w1 w4) := Lib.hid (HX4.out.weaken _)
        have hq := HQ.out w4 HRX.out
        go_upto_region 6 with (fail)
        go_region_held3 (fun w' => w'.cell? ⟨b, off + kp * 14, none⟩ = some (.int .i64 s.author) ∧ w'.cell? ⟨b, off + kp * 14 + 1, none⟩ = some (.int .i64 s.number) ∧ w'.cell? ⟨b, off + kp * 14 + 2, none⟩ = some (.string s.prev) ∧ w'.cell? ⟨b, off + kp * 14 + 3, none⟩ = some (.int .i64 s.time) ∧ w'.cell? ⟨b, off + kp * 14 + 4, none⟩ = some (.int .i64 s.kind) ∧ w'.cell? ⟨b, off + kp * 14 + 5, none⟩ = some (.int .i64 s.a) ∧ w'.cell? ⟨b, off + kp * 14 + 6, none⟩ = some (.int .i64 s.b) ∧ w'.cell? ⟨b, off + kp * 14 + 7, none⟩ = some (.int .i64 s.c) ∧ w'.cell? ⟨b, off + kp * 14 + 8, none⟩ = some (.slice lo ln lc) ∧ w'.cell? ⟨b, off + kp * 14 + 9, none⟩ = some (.slice po pn pc) ∧ w'.cell? ⟨b, off + kp * 14 + 10, none⟩ = some (.string s.body) ∧ w'.cell? ⟨b, off + kp * 14 + 11, none⟩ = some (.int .i64 s.key) ∧ w'.cell? ⟨b, off + kp * 14 + 12, none⟩ = some (.string s.dig) ∧ w'.cell? ⟨b, off + (kp + 1) * 14, none⟩ = some (.int .i64 t.author) ∧ w'.cell? ⟨b, off + (kp + 1) * 14 + 1, none⟩ = some (.int .i64 t.number) ∧ w'.cell? ⟨b, off + (kp + 1) * 14 + 2, none⟩ = some (.string t.prev) ∧ w'.cell? ⟨b, off + (kp + 1) * 14 + 3, none⟩ = some (.int .i64 t.time) ∧ w'.cell? ⟨b, off + (kp + 1) * 14 + 4, none⟩ = some (.int .i64 t.kind) ∧ w'.cell? ⟨b, off + (kp + 1) * 14 + 5, none⟩ = some (.int .i64 t.a) ∧ w'.cell? ⟨b, off + (kp + 1) * 14 + 6, none⟩ = some (.int .i64 t.b) ∧ w'.cell? ⟨b, off + (kp + 1) * 14 + 7, none⟩ = some (.int .i64 t.c) ∧ w'.cell? ⟨b, off + (kp + 1) * 14 + 8, none⟩ = some (.slice lo' ln' lc') ∧ w'.cell? ⟨b, off + (kp + 1) * 14 + 9, none⟩ = some (.slice po' pn' pc') ∧ w'.cell? ⟨b, off + (kp + 1) * 14 + 10, none⟩ = some (.string t.body) ∧ w'.cell? ⟨b, off + (kp + 1) * 14 + 11, none⟩ = some (.int .i64 t.key) ∧ w'.cell? ⟨b, off + (kp + 1) * 14 + 12, none⟩ = some (.string t.dig)) (exact HQ.out _ (by repeat (first | with_reducible exact HX7.out | with_reducible exact HX2.out | with_reducible exact HX1.out | with_reducible exact HRX.out | with_reducible exact Ex.refl _ _ _ | with_reducible refine Ex.setCell ?_ _ none _ (.inl rfl) | with_reducible refine Ex.drew ?_)))
          (first
            | (go_at_call 83
               fail_if_success (have _x := HX1)
               refine (copied_any s lo po ln lc pn pc _ (HLS.out _ (by repeat (first | with_reducible exact HX7.out | with_reducible exact HX2.out | with_reducible exact HX1.out | with_reducible exact HRX.out | with_reducible exact Ex.refl _ _ _ | with_reducible refine Ex.setCell ?_ _ none _ (.inl rfl) | with_reducible refine Ex.drew ?_))).1 HLI.out.1).mono ?_
               rintro e w5 ⟨la, na, ca, pa, np, cp, rfl, hl5, hex5⟩
               have HN1 : Hid (Ex w1.heap.size none w1 w5) := Lib.hid ((by repeat (first | with_reducible exact HX4.out | with_reducible refine Ex.drew ?_) : Ex w1.heap.size none w1 _).trans hex5 (by first | omega | (simp; omega)) (by simp))
               have HX1 : Hid (Ex w1.heap.size (some w.heap.size) w1 w5) := Lib.hid (HN1.out.weaken _)
               have HL1 : Hid (Lies (fun b => w1.heap.size ≤ b) w5 (s, ⟨la, na, ca⟩, ⟨pa, np, cp⟩)) := Lib.hid (hl5.mono fun b h _ => by first | omega | (simp at h; omega))
               have hz5 : w1.heap.size ≤ w5.heap.size := HN1.out.size
               clear hl5 hex5)
            | (go_at_call 83
               refine (copied_any t lo' po' ln' lc' pn' pc' _ (HLS.out _ (by repeat (first | with_reducible exact HX7.out | with_reducible exact HX2.out | with_reducible exact HX1.out | with_reducible exact HRX.out | with_reducible exact Ex.refl _ _ _ | with_reducible refine Ex.setCell ?_ _ none _ (.inl rfl) | with_reducible refine Ex.drew ?_))).2 HLI.out.2).mono ?_
               rintro e w6 ⟨lb, nb, cb, pb, nq, cq, rfl, hl6, hex6⟩
               have HN2 : Hid (Ex w1.heap.size none w1 w6) := Lib.hid ((by repeat (first | with_reducible exact HN1.out | with_reducible refine Ex.drew ?_) : Ex w1.heap.size none w1 _).trans hex6 (by first | omega | (simp; omega)) (by simp))
               have HX2 : Hid (Ex w1.heap.size (some w.heap.size) w1 w6) := Lib.hid (HN2.out.weaken _)
               have HL2 : Hid (Lies (fun b => w1.heap.size ≤ b) w6 (s, ⟨la, na, ca⟩, ⟨pa, np, cp⟩) ∧ Lies (fun b => w1.heap.size ≤ b) w6 (t, ⟨lb, nb, cb⟩, ⟨pb, nq, cq⟩)) := Lib.hid ⟨HL1.out.keep fun b _ hb => hex6.block b (by first | omega | (simp; omega)) (by simp), hl6.mono fun b h _ => by first | omega | (simp at h; omega)⟩
               have hz6 : w1.heap.size ≤ w6.heap.size := HN2.out.size
               clear hl6 hex6
               have HBX := Lib.hid (HBR.out _ HN2.out)
               obtain ⟨w7, hw7⟩ : ∃ w7, w7 = w6.setRow w.heap.size #[.int .i64 s.author, .int .i64 s.number, .string s.prev, .int .i64 s.time, .int .i64 s.kind, .int .i64 s.a, .int .i64 s.b, .int .i64 s.c, .slice la na ca, .slice pa np cp, .string s.body, .int .i64 s.key, .string s.dig, .int .i64 t.author, .int .i64 t.number, .string t.prev, .int .i64 t.time, .int .i64 t.kind, .int .i64 t.a, .int .i64 t.b, .int .i64 t.c, .slice lb nb cb, .slice pb nq cq, .string t.body, .int .i64 t.key, .string t.dig] := ⟨_, rfl⟩
               have hst := run_rowStore (P := Tryz.prog) w6 w.heap.size 29 29 _ #[.int .i64 s.author, .int .i64 s.number, .string s.prev, .int .i64 s.time, .int .i64 s.kind, .int .i64 s.a, .int .i64 s.b, .int .i64 s.c, .slice la na ca, .slice pa np cp, .string s.body, .int .i64 s.key, .string s.dig, .int .i64 t.author, .int .i64 t.number, .string t.prev, .int .i64 t.time, .int .i64 t.kind, .int .i64 t.a, .int .i64 t.b, .int .i64 t.c, .slice lb nb cb, .slice pb nq cq, .string t.body, .int .i64 t.key, .string t.dig] HBX.out Tryz.sizeFork rfl (by simp [Value.oneCell'])
               rw [← hw7] at hst
               have HX7 : Hid (Ex w1.heap.size (some w.heap.size) w1 w7) := Lib.hid (by rw [hw7]; exact HX2.out.setRow _ _ (.inl rfl))
               have HW7 := Lib.hid hw7
               clear hw7)
            | fail)
        clear hq
        have hw7 := HW7.out
        have hrb : w7.heap[w.heap.size]? = some (.cells #[.int .i64 s.author, .int .i64 s.number, .string s.prev, .int .i64 s.time, .int .i64 s.kind, .int .i64 s.a, .int .i64 s.b, .int .i64 s.c, .slice la na ca, .slice pa np cp, .string s.body, .int .i64 s.key, .string s.dig, .int .i64 t.author, .int .i64 t.number, .string t.prev, .int .i64 t.time, .int .i64 t.kind, .int .i64 t.a, .int .i64 t.b, .int .i64 t.c, .slice lb nb cb, .slice pb nq cq, .string t.body, .int .i64 t.key, .string t.dig] 29 (0, 0)) := by rw [hw7]; exact setRow_heap _ _ _ _ _ _ (HBR.out _ HN2.out)
        have HE7 : Hid (Ex w.heap.size none w w7) := Lib.hid (by rw [hw7]; exact Ex.setRow ((HE0.out.trans H1.out.2.2 (by omega) (by simp)).trans HN2.out (by omega) (by simp)) _ _ (.inr (Nat.le_refl _)))
        have HL7 : Hid (Lies (fun b => w1.heap.size ≤ b) w7 (s, ⟨la, na, ca⟩, ⟨pa, np, cp⟩) ∧ Lies (fun b => w1.heap.size ≤ b) w7 (t, ⟨lb, nb, cb⟩, ⟨pb, nq, cq⟩)) := Lib.hid (by
          rw [hw7]
          exact ⟨HL2.out.1.keep fun b h _ => setRow_other _ _ _ _ (by omega), HL2.out.2.keep fun b h _ => setRow_other _ _ _ _ (by omega)⟩)
        clear hw7
        go_wp2_with (fail)
        have hr := run_loadVar_row (P := Tryz.prog) _ w.heap.size 29 29 (#[.int .i64 s.author, .int .i64 s.number, .string s.prev, .int .i64 s.time, .int .i64 s.kind, .int .i64 s.a, .int .i64 s.b, .int .i64 s.c, .slice la na ca, .slice pa np cp, .string s.body, .int .i64 s.key, .string s.dig, .int .i64 t.author, .int .i64 t.number, .string t.prev, .int .i64 t.time, .int .i64 t.kind, .int .i64 t.a, .int .i64 t.b, .int .i64 t.c, .slice lb nb cb, .slice pb nq cq, .string t.body, .int .i64 t.key, .string t.dig] : Array Value) (0, 0) _ hrb Tryz.underlying29 rfl Tryz.sizeFork
        refine bodyPost_ret (v := .tuple #[.agg #[.int .i64 s.author, .int .i64 s.number, .string s.prev, .int .i64 s.time, .int .i64 s.kind, .int .i64 s.a, .int .i64 s.b, .int .i64 s.c, .slice la na ca, .slice pa np cp, .string s.body, .int .i64 s.key, .string s.dig, .int .i64 t.author, .int .i64 t.number, .string t.prev, .int .i64 t.time, .int .i64 t.kind, .int .i64 t.a, .int .i64 t.b, .int .i64 t.c, .slice lb nb cb, .slice pb nq cq, .string t.body, .int .i64 t.key, .string t.dig], .bool true]) ?_ rfl ?_
        · rw [results_cell_tmp Tryz.results39]
          show ((loadVar 29 ⟨w.heap.size, 0, none⟩).run Tryz.prog _).andThen _ = _
          rw [hr]
          rfl
        exact ⟨ls, H1.out.1, _, by rw [HF.out]; rfl, by rw [HF.out]; exact ⟨la, na, ca, pa, np, cp, lb, nb, cb, pb, nq, cq, rfl, HL7.out.1.mono fun b h _ => by omega, HL7.out.2.mono fun b h _ => by omega⟩, HE7.out⟩
      · have k1 : (t.number == s.number) = false := by simp; exact fun h => te h.symm
        have HNN : Hid (∀ j x y, j < kp + 1 → ls[j]? = some x → ls[j + 1]? = some y → ¬ x.number = y.number) := Lib.hid (fun j x y hj hx hy => by
          by_cases e : j = kp
          · subst e
            rw [HXs.out] at hx; rw [HXt.out] at hy
            cases hx; cases hy; exact te
          · exact HNO.out j x y (by omega) hx hy)
        clear te
        have hq := fun p : ExW wr => HQ.out p.w' (HRW.out.trans (p.ex.weaken _) hsz (fun q e _ => e))
        go_upto_region 5 with (fail)
        refine wp_region_quiet_ex (by kernel_rfl) (by kernel_rfl) ?_
        repeat (go_big_quiet_step (fail))
        refine wpQuiet_nil ?_
        intro _ hw'
        obtain ⟨p9, hw''⟩ := hw'
        subst hw''
        clear hq
        go_wp2
        go_roundw
        case rel => exact ⟨kp + 1, by go_num, .inl (by omega), HNN, HRX.out.trans p9.ex hsz (by simp)⟩
        case measure => simp [intOf] <;> omega
    · have hltI : ¬ ((kp : Int) + 1 < (n : Int)) := by omega
      have HF : Hid (forkF ls = none) := Lib.hid (forkF_none fun j x y hx hy => by
        have := (List.getElem?_eq_some_iff.1 hy).1
        have hn := HN.out
        exact HNO.out j x y (by omega) hx hy)
      have HBR : Hid (wr.heap[w.heap.size]? = some (.cells #[.int .i64 0, .int .i64 0, .string ⟨#[]⟩, .int .i64 0, .int .i64 0, .int .i64 0, .int .i64 0, .int .i64 0, .slice none 0 0, .slice none 0 0, .string ⟨#[]⟩, .int .i64 0, .string ⟨#[]⟩, .int .i64 0, .int .i64 0, .string ⟨#[]⟩, .int .i64 0, .int .i64 0, .int .i64 0, .int .i64 0, .int .i64 0, .slice none 0 0, .slice none 0 0, .string ⟨#[]⟩, .int .i64 0, .string ⟨#[]⟩] 29 (0, 0))) := Lib.hid ((HRX.out.block _ (by omega) (by simp)).trans ((H1.out.2.2.block _ (by omega) (by simp)).trans HB0.out))
      go_wp2_with (first
        | (refine wpList_store_rowTo rfl 29 (.tmp 4) (.tmp 45) rfl rfl w.heap.size #[.int .i64 0, .int .i64 0, .string ⟨#[]⟩, .int .i64 0, .int .i64 0, .int .i64 0, .int .i64 0, .int .i64 0, .slice none 0 0, .slice none 0 0, .string ⟨#[]⟩, .int .i64 0, .string ⟨#[]⟩, .int .i64 0, .int .i64 0, .string ⟨#[]⟩, .int .i64 0, .int .i64 0, .int .i64 0, .int .i64 0, .int .i64 0, .slice none 0 0, .slice none 0 0, .string ⟨#[]⟩, .int .i64 0, .string ⟨#[]⟩] (by rfl) (by rfl) 29 #[.int .i64 0, .int .i64 0, .string ⟨#[]⟩, .int .i64 0, .int .i64 0, .int .i64 0, .int .i64 0, .int .i64 0, .slice none 0 0, .slice none 0 0, .string ⟨#[]⟩, .int .i64 0, .string ⟨#[]⟩, .int .i64 0, .int .i64 0, .string ⟨#[]⟩, .int .i64 0, .int .i64 0, .int .i64 0, .int .i64 0, .int .i64 0, .slice none 0 0, .slice none 0 0, .string ⟨#[]⟩, .int .i64 0, .string ⟨#[]⟩] HBR.out Tryz.sizeFork rfl (by simp [Value.oneCell']) ?_)
        | fail)
      obtain ⟨w7, hw7⟩ : ∃ w7, w7 = wr.setRow w.heap.size #[.int .i64 0, .int .i64 0, .string ⟨#[]⟩, .int .i64 0, .int .i64 0, .int .i64 0, .int .i64 0, .int .i64 0, .slice none 0 0, .slice none 0 0, .string ⟨#[]⟩, .int .i64 0, .string ⟨#[]⟩, .int .i64 0, .int .i64 0, .string ⟨#[]⟩, .int .i64 0, .int .i64 0, .int .i64 0, .int .i64 0, .int .i64 0, .slice none 0 0, .slice none 0 0, .string ⟨#[]⟩, .int .i64 0, .string ⟨#[]⟩] := ⟨_, rfl⟩
      have hrb : w7.heap[w.heap.size]? = some (.cells #[.int .i64 0, .int .i64 0, .string ⟨#[]⟩, .int .i64 0, .int .i64 0, .int .i64 0, .int .i64 0, .int .i64 0, .slice none 0 0, .slice none 0 0, .string ⟨#[]⟩, .int .i64 0, .string ⟨#[]⟩, .int .i64 0, .int .i64 0, .string ⟨#[]⟩, .int .i64 0, .int .i64 0, .int .i64 0, .int .i64 0, .int .i64 0, .slice none 0 0, .slice none 0 0, .string ⟨#[]⟩, .int .i64 0, .string ⟨#[]⟩] 29 (0, 0)) := by rw [hw7]; exact setRow_heap _ _ _ _ _ _ HBR.out
      have HE7 : Hid (Ex w.heap.size none w w7) := Lib.hid (by rw [hw7]; exact (((HE0.out.trans H1.out.2.2 (by omega) (by simp)).trans HRX.out (by omega) (by simp))).setRow _ _ (.inr (Nat.le_refl _)))
      rw [← hw7]
      clear hw7
      have hr := run_loadVar_row (P := Tryz.prog) _ w.heap.size 29 29 (#[.int .i64 0, .int .i64 0, .string ⟨#[]⟩, .int .i64 0, .int .i64 0, .int .i64 0, .int .i64 0, .int .i64 0, .slice none 0 0, .slice none 0 0, .string ⟨#[]⟩, .int .i64 0, .string ⟨#[]⟩, .int .i64 0, .int .i64 0, .string ⟨#[]⟩, .int .i64 0, .int .i64 0, .int .i64 0, .int .i64 0, .int .i64 0, .slice none 0 0, .slice none 0 0, .string ⟨#[]⟩, .int .i64 0, .string ⟨#[]⟩] : Array Value) (0, 0) _ hrb Tryz.underlying29 rfl Tryz.sizeFork
      refine bodyPost_ret (v := .tuple #[.agg #[.int .i64 0, .int .i64 0, .string ⟨#[]⟩, .int .i64 0, .int .i64 0, .int .i64 0, .int .i64 0, .int .i64 0, .slice none 0 0, .slice none 0 0, .string ⟨#[]⟩, .int .i64 0, .string ⟨#[]⟩, .int .i64 0, .int .i64 0, .string ⟨#[]⟩, .int .i64 0, .int .i64 0, .int .i64 0, .int .i64 0, .int .i64 0, .slice none 0 0, .slice none 0 0, .string ⟨#[]⟩, .int .i64 0, .string ⟨#[]⟩], .bool false]) ?_ rfl ?_
      · rw [results_cell_tmp Tryz.results39]
        show ((loadVar 29 ⟨w.heap.size, 0, none⟩).run Tryz.prog _).andThen _ = _
        rw [hr]
        rfl
      exact ⟨ls, H1.out.1, _, by rw [HF.out]; rfl, by rw [HF.out]; rfl, HE7.out⟩
end Go.Proofs.YtoeklgbajggndaaGreat

namespace Go.Proofs.YtoeklgbajggndaaGreat
open Go.RowKit Go.Sort

/-- The number of a fork, or -1. -/
def fromI : Option (St × St) → Int
  | some (s, _) => s.number
  | none => -1
attribute [local go_sem ↓] rowStore_fork
set_option maxHeartbeats 4000000 in
set_option maxRecDepth 100000 in
theorem fromP_any {P : Nat → Prop} (ao : Option Addr) (cap n : Nat) (l : List St) (a : Int) (w : World) (hn : l.length = n) (hx : SlAt stRep P w ao l) (hm : n ≤ 100000) (hL : LightL 1000000 l) :
    Calls Tryz.prog 16 #[.agg #[.slice ao n cap], .int .i64 a] w fun e w' => ∃ ls, LinksR a (l.filter (authB a)) ls ∧ e = .returned (.int .i64 (fromI (forkF ls))) ∧ Ex w.heap.size none w w' := by
  have HX : Hid (SlAt stRep (fun b => b < w.heap.size) w ao l) := Lib.hid (hx.mono (by decide) fun b _ hb => hb)
  have HLL := Lib.hid hL
  have HN := Lib.hid hn
  clear hx hL hn
  obtain ⟨w0, hw0⟩ : ∃ w0 : World, w0 = w.alloc (.cells #[.slice ao n cap] 37) := ⟨_, rfl⟩
  have hz0 : w0.heap.size = w.heap.size + 1 := by rw [hw0]; simp
  have HE0 : Hid (Ex w.heap.size none w w0) := Lib.hid (by rw [hw0]; exact Ex.new w _)
  have HB0 : Hid (∀ w', Ex w0.heap.size none w0 w' → w'.cell? ⟨w.heap.size, 0, none⟩ = some (.slice ao n cap)) := Lib.hid (fun w' h => by rw [cell_of_row _ _ _ _ _ _ ((h.block _ (by omega) (by simp)).trans (by rw [hw0]; exact heap_alloc_new w _))]; rfl)
  have HX0 : Hid (∀ w', Ex w0.heap.size none w0 w' → SlAt stRep (fun b => b < w.heap.size) w' ao l) := Lib.hid (fun w' h => (HX.out.keep (by decide) fun b _ hb => (h.block b (by omega) (by simp)).trans (HE0.out.block b hb (by simp))))
  have d0 := HB0.out w0 (Ex.refl _ _ _)
  go_enter Tryz.func16, Tryz.ntmps16
  go_upto_region 1 with (fail)
  rw [← hw0]
  clear hw0
  go_upto_region 2 with (first
    | (go_at_call 40
       refine (ofP_any ao cap n l a w0 HN.out (HX0.out w0 (Ex.refl _ _ _)) hm HLL.out).mono ?_
       rintro e w1 ⟨ro, m, rc, rfl, hm2, hown, hex⟩
       have H1 : Hid (Sl stRep (fun _ => True) w1 (.slice ro m rc) (l.filter (authB a)) ∧ Ex w0.heap.size none w0 w1) := Lib.hid ⟨by rw [hm2]; exact (OwnS.sl hown).mono (by decide) fun _ _ _ => trivial, hex⟩
       have hz1 : w0.heap.size ≤ w1.heap.size := hex.size
       clear hm2 hown hex d0)
    | (go_at_call 39
       refine (forkC_any (.slice ro m rc) (l.filter (authB a)) a w1 H1.out.1 (by have := List.length_filter_le (authB a) l; have := HN.out; omega) (authB_light HLL.out)).mono ?_
       rintro e w2 ⟨ls, hls, cs, rfl, hcs, hex2⟩
       have H2 : Hid (LinksR a (l.filter (authB a)) ls ∧ ForkC w2 w1.heap.size cs (forkF ls) ∧ Ex w1.heap.size none w1 w2) := Lib.hid ⟨hls, hcs, hex2⟩
       have hz2 : w1.heap.size ≤ w2.heap.size := hex2.size
       obtain ⟨r, hr⟩ : ∃ r, r = forkF ls := ⟨_, rfl⟩
       have HR := Lib.hid hr
       rw [← hr]
       have hst := run_rowStore (P := Tryz.prog) (w2.alloc (.cells #[.int .i64 0, .int .i64 0, .string ⟨#[]⟩, .int .i64 0, .int .i64 0, .int .i64 0, .int .i64 0, .int .i64 0, .slice none 0 0, .slice none 0 0, .string ⟨#[]⟩, .int .i64 0, .string ⟨#[]⟩, .int .i64 0, .int .i64 0, .string ⟨#[]⟩, .int .i64 0, .int .i64 0, .int .i64 0, .int .i64 0, .int .i64 0, .slice none 0 0, .slice none 0 0, .string ⟨#[]⟩, .int .i64 0, .string ⟨#[]⟩] 29)) w2.heap.size 29 29 #[.int .i64 0, .int .i64 0, .string ⟨#[]⟩, .int .i64 0, .int .i64 0, .int .i64 0, .int .i64 0, .int .i64 0, .slice none 0 0, .slice none 0 0, .string ⟨#[]⟩, .int .i64 0, .string ⟨#[]⟩, .int .i64 0, .int .i64 0, .string ⟨#[]⟩, .int .i64 0, .int .i64 0, .int .i64 0, .int .i64 0, .int .i64 0, .slice none 0 0, .slice none 0 0, .string ⟨#[]⟩, .int .i64 0, .string ⟨#[]⟩] cs (heap_alloc_new w2 _) (by rw [hcs.size]; exact Tryz.sizeFork) (by rw [hcs.size]; rfl) hcs.one
       obtain ⟨w3, hw3⟩ : ∃ w3 : World, w3 = (w2.alloc (.cells #[.int .i64 0, .int .i64 0, .string ⟨#[]⟩, .int .i64 0, .int .i64 0, .int .i64 0, .int .i64 0, .int .i64 0, .slice none 0 0, .slice none 0 0, .string ⟨#[]⟩, .int .i64 0, .string ⟨#[]⟩, .int .i64 0, .int .i64 0, .string ⟨#[]⟩, .int .i64 0, .int .i64 0, .int .i64 0, .int .i64 0, .int .i64 0, .slice none 0 0, .slice none 0 0, .string ⟨#[]⟩, .int .i64 0, .string ⟨#[]⟩] 29)).setRow w2.heap.size cs := ⟨_, rfl⟩
       rw [← hw3] at hst
       have HB3 : Hid (w3.heap[w2.heap.size]? = some (.cells cs 29 (0, 0))) := Lib.hid (by rw [hw3]; exact setRow_heap _ _ _ _ _ _ (heap_alloc_new w2 _))
       have HE3 : Hid (Ex w2.heap.size none w2 w3) := Lib.hid (by rw [hw3]; exact (Ex.new w2 _).setRow _ _ (.inr (Nat.le_refl _)))
       clear hls hcs hex2 hr hw3)
    | fail)
  have hz3 : w2.heap.size ≤ w3.heap.size := HE3.out.size
  have HE : Hid (Ex w.heap.size none w w3) := Lib.hid (((HE0.out.trans H1.out.2 (by omega) (by simp)).trans H2.out.2.2 (by omega) (by simp)).trans HE3.out (by omega) (by simp))
  clear hst
  cases r with
  | none =>
    go_wp2
    go_ret
    exact ⟨ls, H2.out.1, by rw [← HR.out]; rfl, HE.out⟩
  | some p =>
    obtain ⟨s, t⟩ := p
    have hcs := H2.out.2.1
    rw [← HR.out] at hcs
    obtain ⟨la, na, ca, pa, np, cp, lb, nb, cb, pb, nq, cq, hcs, _⟩ := hcs
    have d1 : w3.cell? ⟨w2.heap.size, 1, none⟩ = some (.int .i64 s.number) := by rw [cell_of_row _ _ _ _ _ _ HB3.out, hcs]; rfl
    clear hcs
    go_wp2
    go_ret
    exact ⟨ls, H2.out.1, by rw [← HR.out]; rfl, HE.out⟩
end Go.Proofs.YtoeklgbajggndaaGreat

namespace Go.Proofs.YtoeklgbajggndaaGreat
open Go.RowKit Go.Sort

end Go.Proofs.YtoeklgbajggndaaGreat

namespace Go.Proofs.YtoeklgbajggndaaGreat
open Go.RowKit Go.Sort

/-- A fork in its cells. -/
def fkE (x : (St × Sv × Sv) × (St × Sv × Sv)) : List Value := stE x.1 ++ stE x.2
theorem fkE_len (x : (St × Sv × Sv) × (St × Sv × Sv)) : (fkE x).length = 26 := rfl
theorem one_fkE : ∀ x, ∀ v ∈ fkE x, v.oneCell' = true := fun x v hv => by
  rcases List.mem_append.1 hv with h | h
  · exact one_stE _ v h
  · exact one_stE _ v h
theorem Tryz.infoFork : (Tryz.prog.info? 29).map (fun i => (i.zero, i.size, i.bytes)) = some (some (.agg #[.int .i64 0, .int .i64 0, .string ⟨#[]⟩, .int .i64 0, .int .i64 0, .int .i64 0, .int .i64 0, .int .i64 0, .slice none 0 0, .slice none 0 0, .string ⟨#[]⟩, .int .i64 0, .string ⟨#[]⟩, .int .i64 0, .int .i64 0, .string ⟨#[]⟩, .int .i64 0, .int .i64 0, .int .i64 0, .int .i64 0, .int .i64 0, .slice none 0 0, .slice none 0 0, .string ⟨#[]⟩, .int .i64 0, .string ⟨#[]⟩]), 26, 320) := by kernel_rfl
/-- The forks of the authors below k: by the links of each. -/
inductive FindR (l : List St) : Nat → List (St × St) → Prop
  | zero : FindR l 0 []
  | none {k : Nat} {fs : List (St × St)} {ls : List St} (h : FindR l k fs) (hl : LinksR ((k : Nat) : Int) (l.filter (authB ((k : Nat) : Int))) ls) (hf : forkF ls = none) : FindR l (k + 1) fs
  | some {k : Nat} {fs : List (St × St)} {ls : List St} {p : St × St} (h : FindR l k fs) (hl : LinksR ((k : Nat) : Int) (l.filter (authB ((k : Nat) : Int))) ls) (hf : forkF ls = some p) : FindR l (k + 1) (fs ++ [p])
/-- Forks that lie well. -/
def LiesF (P : Nat → Prop) (w : World) (x : (St × Sv × Sv) × (St × Sv × Sv)) : Prop := Lies P w x.1 ∧ Lies P w x.2
theorem LiesF.keep {P : Nat → Prop} {w w' : World} {x : (St × Sv × Sv) × (St × Sv × Sv)} (h : LiesF P w x) (hx : ∀ b, P b → b < w.heap.size → w'.heap[b]? = w.heap[b]?) : LiesF P w' x := ⟨h.1.keep hx, h.2.keep hx⟩
theorem LiesF.mono {P P' : Nat → Prop} {w : World} {x : (St × Sv × Sv) × (St × Sv × Sv)} (h : LiesF P w x) (hx : ∀ b, P b → b < w.heap.size → P' b) : LiesF P' w x := ⟨h.1.mono hx, h.2.mono hx⟩
theorem rowLoad_fork (a : Addr) : loadVar 29 a = rowLoad 29 a := rfl
theorem rowBuild_fork (n : Nat) (ps : Array (Nat × Value)) : Instr.buildSlice 44 n ps = rowBuild 44 n ps := rfl
attribute [local go_sem ↓] rowStore_fork rowLoad_fork rowBuild_fork
set_option maxHeartbeats 8000000 in
set_option maxRecDepth 100000 in
theorem findP_any {P : Nat → Prop} (ao : Option Addr) (cap n : Nat) (l : List St) (w : World) (hn : l.length = n) (hx : SlAt stRep P w ao l) (hm : n ≤ 100000) (hL : LightL 1000000 l) :
    Calls Tryz.prog 13 #[.agg #[.slice ao n cap]] w fun e w' => ∃ ro m rc xs, e = .returned (.slice ro m rc) ∧ xs.length = m ∧ FindR l 64 (xs.map fun x => (x.1.1, x.2.1)) ∧ OwnE fkE 26 29 w' w.heap.size ro rc xs ∧ (∀ x ∈ xs, LiesF (fun b => w.heap.size ≤ b) w' x) ∧ Ex w.heap.size none w w' := by
  have HX : Hid (SlAt stRep (fun b => b < w.heap.size) w ao l) := Lib.hid (hx.mono (by decide) fun b _ hb => hb)
  have HLL := Lib.hid hL
  have HN := Lib.hid hn
  clear hx hL hn
  obtain ⟨w0, hw0⟩ : ∃ w0 : World, w0 = w.alloc (.cells #[.slice ao n cap] 37) := ⟨_, rfl⟩
  have hz0 : w0.heap.size = w.heap.size + 1 := by rw [hw0]; simp
  have HE0 : Hid (Ex w.heap.size none w w0) := Lib.hid (by rw [hw0]; exact Ex.new w _)
  have HB0 : Hid (∀ w', Ex w0.heap.size none w0 w' → w'.cell? ⟨w.heap.size, 0, none⟩ = some (.slice ao n cap)) := Lib.hid (fun w' h => by rw [cell_of_row _ _ _ _ _ _ ((h.block _ (by omega) (by simp)).trans (by rw [hw0]; exact heap_alloc_new w _))]; rfl)
  have HX0 : Hid (∀ w', Ex w0.heap.size none w0 w' → SlAt stRep (fun b => b < w.heap.size) w' ao l) := Lib.hid (fun w' h => (HX.out.keep (by decide) fun b _ hb => (h.block b (by omega) (by simp)).trans (HE0.out.block b hb (by simp))))
  go_enter Tryz.func13, Tryz.ntmps13
  go_upto_region 1 with (fail)
  rw [← hw0]
  clear hw0
  go_wp2
  go_loopw [3, 7] (fun v i wr => ∃ (k m : Nat) (ro : Option Addr) (rc : Nat) (acc : List ((St × Sv × Sv) × (St × Sv × Sv))), k ≤ 64 ∧ i = .int .i64 k ∧ v = .slice ro m rc ∧ Hid (FindR l k (acc.map fun x => (x.1.1, x.2.1)) ∧ acc.length = m ∧ m ≤ k ∧ ∀ x ∈ acc, LiesF (fun b => w0.heap.size ≤ b ∧ rowOf ro ≠ some b) wr x) ∧ OwnE fkE 26 29 wr w0.heap.size ro rc acc ∧ Ex w0.heap.size none w0 wr) (fun _ i _ => 64 - (intOf i).toNat)
  case atStart => exact ⟨0, 0, none, 0, [], by omega, rfl, rfl, Lib.hid ⟨.zero, rfl, by omega, by simp⟩, OwnE.nil _ _ _ _ _, Ex.refl _ _ _⟩
  case round =>
    obtain ⟨k, m, ro, rc, acc, hk, rfl, rfl, HA, hown, hex⟩ := hrel
    have hsz := hex.size
    have HEX := Lib.hid hex
    have HO := Lib.hid hown
    have hnk : m ≤ k := HA.out.2.2.1
    have HAL : Hid (acc.length = m) := Lib.hid HA.out.2.1
    have d0 := HB0.out wr hex
    clear hown hex
    by_cases hlt : k < 64
    · go_upto_region 6 with (first
        | (go_at_call 40
           refine (ofP_any ao cap n l ((k : Nat) : Int) wr HN.out (HX0.out wr HEX.out) hm HLL.out).mono ?_
           rintro e w1 ⟨r1, m1, rc1, rfl, hm2, hown, hex⟩
           have H1 : Hid (Sl stRep (fun _ => True) w1 (.slice r1 m1 rc1) (l.filter (authB ((k : Nat) : Int))) ∧ Ex wr.heap.size none wr w1) := Lib.hid ⟨by rw [hm2]; exact (OwnS.sl hown).mono (by decide) fun _ _ _ => trivial, hex⟩
           have hz1 : wr.heap.size ≤ w1.heap.size := hex.size
           clear hm2 hown hex d0)
        | (go_at_call 39
           refine (forkC_any (.slice r1 m1 rc1) (l.filter (authB ((k : Nat) : Int))) ((k : Nat) : Int) w1 H1.out.1 (by have := List.length_filter_le (authB ((k : Nat) : Int)) l; have := HN.out; omega) (authB_light HLL.out)).mono ?_
           rintro e w2 ⟨ls, hls, cs, rfl, hcs, hex2⟩
           have H2 : Hid (LinksR ((k : Nat) : Int) (l.filter (authB ((k : Nat) : Int))) ls ∧ ForkC w2 w1.heap.size cs (forkF ls) ∧ Ex w1.heap.size none w1 w2) := Lib.hid ⟨hls, hcs, hex2⟩
           have hz2 : w1.heap.size ≤ w2.heap.size := hex2.size
           obtain ⟨r, hr⟩ : ∃ r, r = forkF ls := ⟨_, rfl⟩
           have HR := Lib.hid hr
           rw [← hr]
           have hst := run_rowStore (P := Tryz.prog) (w2.alloc (.cells #[.int .i64 0, .int .i64 0, .string ⟨#[]⟩, .int .i64 0, .int .i64 0, .int .i64 0, .int .i64 0, .int .i64 0, .slice none 0 0, .slice none 0 0, .string ⟨#[]⟩, .int .i64 0, .string ⟨#[]⟩, .int .i64 0, .int .i64 0, .string ⟨#[]⟩, .int .i64 0, .int .i64 0, .int .i64 0, .int .i64 0, .int .i64 0, .slice none 0 0, .slice none 0 0, .string ⟨#[]⟩, .int .i64 0, .string ⟨#[]⟩] 29)) w2.heap.size 29 29 #[.int .i64 0, .int .i64 0, .string ⟨#[]⟩, .int .i64 0, .int .i64 0, .int .i64 0, .int .i64 0, .int .i64 0, .slice none 0 0, .slice none 0 0, .string ⟨#[]⟩, .int .i64 0, .string ⟨#[]⟩, .int .i64 0, .int .i64 0, .string ⟨#[]⟩, .int .i64 0, .int .i64 0, .int .i64 0, .int .i64 0, .int .i64 0, .slice none 0 0, .slice none 0 0, .string ⟨#[]⟩, .int .i64 0, .string ⟨#[]⟩] cs (heap_alloc_new w2 _) (by rw [hcs.size]; exact Tryz.sizeFork) (by rw [hcs.size]; rfl) hcs.one
           obtain ⟨w3, hw3⟩ : ∃ w3 : World, w3 = (w2.alloc (.cells #[.int .i64 0, .int .i64 0, .string ⟨#[]⟩, .int .i64 0, .int .i64 0, .int .i64 0, .int .i64 0, .int .i64 0, .slice none 0 0, .slice none 0 0, .string ⟨#[]⟩, .int .i64 0, .string ⟨#[]⟩, .int .i64 0, .int .i64 0, .string ⟨#[]⟩, .int .i64 0, .int .i64 0, .int .i64 0, .int .i64 0, .int .i64 0, .slice none 0 0, .slice none 0 0, .string ⟨#[]⟩, .int .i64 0, .string ⟨#[]⟩] 29)).setRow w2.heap.size cs := ⟨_, rfl⟩
           rw [← hw3] at hst
           have HB3 : Hid (w3.heap[w2.heap.size]? = some (.cells cs 29 (0, 0))) := Lib.hid (by rw [hw3]; exact setRow_heap _ _ _ _ _ _ (heap_alloc_new w2 _))
           have HE3 : Hid (Ex w2.heap.size none w2 w3) := Lib.hid (by rw [hw3]; exact (Ex.new w2 _).setRow _ _ (.inr (Nat.le_refl _)))
           clear hls hcs hex2 hr hw3)
        | fail)
      have hz3 : w2.heap.size ≤ w3.heap.size := HE3.out.size
      have HE : Hid (Ex wr.heap.size none wr w3) := Lib.hid ((H1.out.2.trans H2.out.2.2 (by omega) (by simp)).trans HE3.out (by omega) (by simp))
      clear hst
      cases r with
      | none =>
        go_wp2
        go_roundw
        case rel => exact ⟨k + 1, m, ro, rc, acc, by omega, by go_num, rfl, Lib.hid ⟨.none HA.out.1 H2.out.1 HR.out.symm, HA.out.2.1, by omega, fun y hy => (HA.out.2.2.2 y hy).keep fun b _ hb => HE.out.block b hb (by simp)⟩, HO.out.keep HE.out (Nat.le_refl _) (by simp), HEX.out.trans HE.out hsz (by simp)⟩
        case measure => simp [intOf] <;> omega
      | some p =>
        have HF : Hid (∃ x : (St × Sv × Sv) × (St × Sv × Sv), cs = (fkE x).toArray ∧ (x.1.1, x.2.1) = p ∧ LiesF (fun b => w1.heap.size ≤ b) w2 x) := Lib.hid (by
          have hcs := H2.out.2.1
          rw [← HR.out] at hcs
          obtain ⟨s, t⟩ := p
          obtain ⟨la, na, ca, pa, np, cp, lb, nb, cb, pb, nq, cq, hcs, hls1, hls2⟩ := hcs
          exact ⟨((s, ⟨la, na, ca⟩, ⟨pa, np, cp⟩), (t, ⟨lb, nb, cb⟩, ⟨pb, nq, cq⟩)), by rw [hcs]; rfl, rfl, hls1, hls2⟩)
        obtain ⟨x, hx⟩ := HF.out
        have HX1 := Lib.hid hx
        have HCS : Hid (cs.size = 26) := Lib.hid H2.out.2.1.size
        clear hx
        have hld := run_rowLoad (P := Tryz.prog) w3 w2.heap.size 29 29 cs (0, 0) _ HB3.out Tryz.underlying29 rfl (by rw [HCS.out]; exact Tryz.sizeFork)
        obtain ⟨z, hz⟩ : ∃ z, (Tryz.prog.info? 29).map (fun i => (i.zero, i.size, i.bytes)) = some (some z, 26, 320) ∧ z.cells.size = 26 := ⟨_, Tryz.infoFork, rfl⟩
        have HZ := Lib.hid hz
        clear hz
        have hbd : (rowBuild 44 1 #[(0, .agg cs)]).run Tryz.prog w3 = .ok (.slice (some ⟨w3.heap.size, 0, none⟩) 1 1) (w3.alloc (.cells cs 29)) := run_rowBuild w3 44 29 cs 26 320 z Tryz.underlying44 HZ.out.1 (by decide) (by decide) HCS.out
        go_wp2_with (at_builtin; refine wpList_appE2 rfl (.tmp 19) (.tmp 21) _ 29 (by rfl) Tryz.underlying44 z 26 320 HZ.out.1 HZ.out.2 (by decide) (by decide) fkE fkE_len one_fkE w0.heap.size ro rc m acc HAL.out (by rfl) (some ⟨w3.heap.size, 0, none⟩) 1 1 (by rfl) [x] rfl ((HO.out.keep HE.out (Nat.le_refl _) (by simp)).keep (Ex.new w3 _) (Nat.le_refl _) (by simp)) (lit_cells (by rw [HX1.out.1])) (by omega) (by simp; omega) (m + 1) rfl ?_; intro ro2 rc2 w6 hown6 hex6 hk6 hro6)
        clear hld hbd
        have HO6 := Lib.hid hown6
        have HEN : Hid (Ex w0.heap.size none w3 w6) := Lib.hid (((Ex.new w3 _).mono (by omega)).trans hex6 (Nat.le_refl _) (by simp))
        have HE6 : Hid (Ex w0.heap.size none w0 w6) := Lib.hid ((HEX.out.trans HE.out hsz (by simp)).trans HEN.out (Nat.le_refl _) (by simp))
        have HL6 : Hid (∀ y ∈ acc ++ [x], LiesF (fun b => w0.heap.size ≤ b ∧ rowOf ro2 ≠ some b) w6 y) := Lib.hid (fun y hy => by
          have h3 : LiesF (fun b => w0.heap.size ≤ b ∧ rowOf ro ≠ some b) w3 y := by
            rcases List.mem_append.1 hy with h | h
            · exact (HA.out.2.2.2 y h).keep fun b _ hb => HE.out.block b hb (by simp)
            · rw [List.mem_singleton.1 h]
              refine (HX1.out.2.2.mono (fun b hb hlt => ⟨by omega, fun e => ?_⟩)).keep fun b _ hb => HE3.out.block b hb (by simp)
              cases ro with
              | none => cases e
              | some ad =>
                have h1 := (HO.out.lt ad rfl).2
                have h2 : ad.block = b := Option.some.inj e
                omega
          have h4 : LiesF (fun b => (w0.heap.size ≤ b ∧ rowOf ro ≠ some b) ∧ w0.heap.size ≤ b ∧ rowOf ro2 ≠ some b) w3 y := h3.mono fun b hb hlt => ⟨hb, hb.1, by
            rcases hro6 with h | h
            · rw [h]; exact hb.2
            · rw [h]; intro e; have := Option.some.inj e; rw [World.size_alloc] at this; omega⟩
          exact (h4.keep (w' := w6) fun b hb hlt => (hk6 b (by rw [World.size_alloc]; omega) hb.1.2).trans ((Ex.new w3 _).block b hlt (by simp))).mono fun b hb _ => hb.2)
        clear hown6 hex6 hk6 hro6
        go_roundw
        case rel => exact ⟨k + 1, m + 1, ro2, rc2, acc ++ [x], by omega, by go_num, rfl, Lib.hid ⟨by rw [List.map_append]; exact .some HA.out.1 H2.out.1 (HR.out.symm.trans (congrArg some HX1.out.2.1.symm)), by rw [List.length_append, HAL.out]; rfl, by omega, HL6.out⟩, HO6.out, HE6.out⟩
        case measure => simp [intOf] <;> omega
    · obtain rfl : k = 64 := by omega
      go_wp2
      go_ret
      exact ⟨ro, m, rc, acc, rfl, HAL.out, HA.out.1, HO.out.lowerE (by omega), fun y hy => (HA.out.2.2.2 y hy).mono fun b hb _ => by omega, HE0.out.trans HEX.out (by omega) (by simp)⟩
end Go.Proofs.YtoeklgbajggndaaGreat

namespace Go.Proofs.YtoeklgbajggndaaGreat
open Go.RowKit Go.Sort

/-- What the program answers at an author. -/
def GuiltyR (l : List St) (k : Nat) (b : Bool) : Prop := ∃ ls, LinksR ((k : Nat) : Int) (l.filter (authB ((k : Nat) : Int))) ls ∧ b = decide (0 ≤ fromI (forkF ls))
set_option maxHeartbeats 2000000 in
set_option maxRecDepth 100000 in
theorem guiltyTest_any (g : Nat) (ao : Option Addr) (cap n : Nat) (l : List St) (w0 : World) (hg : w0.heap[g]? = some (.cells #[.slice ao n cap] 37 (0, 0))) (hn : l.length = n) (hx : SlAt stRep (fun b => b < w0.heap.size) w0 ao l) (hm : n ≤ 100000) (hL : LightL 1000000 l) : TestQ 42 #[.pointer (some ⟨g, 0, none⟩)] w0 64 (GuiltyR l) := by
  intro w k hex hk
  have hgl : g < w0.heap.size := (Array.getElem?_eq_some_iff.1 hg).1
  have hz := hex.size
  have hc : w.cell? ⟨g, 0, none⟩ = some (.slice ao n cap) := by rw [cell_of_row _ _ _ _ _ _ ((hex.block g hgl (by simp)).trans hg)]; rfl
  have HX : Hid (SlAt stRep (fun b => b < w0.heap.size) w ao l) := Lib.hid (hx.keep (by decide) fun b _ hb => hex.block b hb (by simp))
  have HLL := Lib.hid hL
  have HN := Lib.hid hn
  clear hex hg hx hL hn
  go_enter Tryz.func42, Tryz.ntmps42
  go_wp2_with (first
    | (go_at_call 16
       refine (fromP_any ao cap n l ((k : Nat) : Int) w HN.out HX.out hm HLL.out).mono ?_
       rintro e w1 ⟨ls, hls, rfl, hex⟩
       have H1 := Lib.hid hls
       have HE := Lib.hid hex
       obtain ⟨q, hq⟩ : ∃ q, q = fromI (forkF ls) := ⟨_, rfl⟩
       have HQ := Lib.hid hq
       rw [← hq]
       clear hls hex hq)
    | fail)
  go_ret
  exact ⟨_, ⟨ls, H1.out, rfl⟩, by rw [← HQ.out]; rfl, HE.out⟩
set_option maxHeartbeats 2000000 in
set_option maxRecDepth 100000 in
theorem guiltyP_any {P : Nat → Prop} (ao : Option Addr) (cap n : Nat) (l : List St) (w : World) (hn : l.length = n) (hx : SlAt stRep P w ao l) (hm : n ≤ 100000) (hL : LightL 1000000 l) :
    Calls Tryz.prog 14 #[.agg #[.slice ao n cap]] w fun e w' => ∃ ro rc xs p, e = .returned (.slice ro xs.length rc) ∧ xs = whereL 64 p ∧ (∀ i, i < 64 → GuiltyR l i (p i)) ∧ OwnI w' w.heap.size ro rc xs ∧ Ex w.heap.size none w w' := by
  have HX : Hid (SlAt stRep (fun b => b < w.heap.size) w ao l) := Lib.hid (hx.mono (by decide) fun b _ hb => hb)
  have HLL := Lib.hid hL
  have HN := Lib.hid hn
  clear hx hL hn
  have hmf : ∀ (fn : Fn) (first cap : Array Value) (w : World), (Instr.makeFunc fn first cap).run Tryz.prog w = .ok (.func fn first cap) w := fun _ _ _ _ => rfl
  obtain ⟨w0, hw0⟩ : ∃ w0 : World, w0 = w.alloc (.cells #[.slice ao n cap] 37) := ⟨_, rfl⟩
  have hz0 : w0.heap.size = w.heap.size + 1 := by rw [hw0]; simp
  have HE0 : Hid (Ex w.heap.size none w w0) := Lib.hid (by rw [hw0]; exact Ex.new w _)
  have HB0 : Hid (w0.heap[w.heap.size]? = some (.cells #[.slice ao n cap] 37 (0, 0))) := Lib.hid (by rw [hw0]; exact heap_alloc_new w _)
  have HX0 : Hid (SlAt stRep (fun b => b < w0.heap.size) w0 ao l) := Lib.hid ((HX.out.keep (by decide) fun b _ hb => HE0.out.block b hb (by simp)).mono (by decide) fun b _ hb => by omega)
  go_enter Tryz.func14, Tryz.ntmps14
  go_upto_region 1 with (fail)
  rw [← hw0]
  clear hw0
  go_wp2_with (first
    | (go_at_call 41
       refine (whereR_any 64 42 #[.pointer (some ⟨w.heap.size, 0, none⟩)] (GuiltyR l) w0 (by decide) (enters_of Tryz.func42 (by kernel_rfl) rfl) (guiltyTest_any _ ao cap n l w0 HB0.out HN.out HX0.out hm HLL.out)).mono ?_
       rintro e w1 ⟨ro, rc, xs, p, rfl, hxs, hp, hown, hex⟩
       have H1 : Hid (xs = whereL 64 p ∧ (∀ i, i < 64 → GuiltyR l i (p i)) ∧ OwnI w1 w0.heap.size ro rc xs ∧ Ex w0.heap.size none w0 w1) := Lib.hid ⟨hxs, hp, hown, hex⟩
       clear hxs hp hown hex)
    | fail)
  go_ret
  exact ⟨ro, rc, xs, p, rfl, H1.out.1, H1.out.2.1, H1.out.2.2.1.lowerI (by omega), HE0.out.trans H1.out.2.2.2 (by omega) (by simp)⟩
end Go.Proofs.YtoeklgbajggndaaGreat

/- Statements as values that the walk does not open; contracts in these words. No statement of the seat. | chain.links: a contract, no statement of the seat. | Links in memory, one by one; a row of cells stored as one step of a region. No statement of the seat. | Links as values that the walk does not open; chain.follows and chain.copied in these words. No statement of the seat. | store.Valid: a contract, no statement of the seat. | The library's binary search at statements, in the order of a store: a contract, no statement of the seat. | slices.Insert at statements: contracts, after the guide's walk at elements of one cell. No statement of the seat. | slices.Insert of one statement into an owned row of statements: a contract, no statement of the seat. | shelf.Put: a contract, no statement of the seat. | chain.Counted: a contract, no statement of the seat. | Rows with one statement for each number: what counts in them, and in such a row with one more behind it. Plain, no program in sight; no statement of the seat. -/
import Derived.Test.YtaakacahblndcaaMg00
import Derived.Test.YtaakacahblndcaaCheckPG
import Derived.Test.YtaakacahblndcaaMg08
import Derived.Test.YtaakacahblndcaaMg05
import Derived.Test.YtaakacahblndcaaMg06
import Derived.Deep.MidRow
import Derived.Test.YtaakacahblndcaaMg01
import Derived.Great.BuildSlice
import Derived.Test.YtaakacahblndcaaMg02
import Derived.Lib.AppendZeros
import Derived.Lib.AppendZerosOnto
import Derived.Lib.Overlaps
import Derived.Laws.Externs
import Derived.Laws.IdiomCopy
import Derived.Laws.NewBlocks
import Derived.Lib.Walk
import Derived.Lib.SliceRun
import Derived.Lib.JoinLaws
import Derived.Shelf.RegionOpenPlain
import Derived.Test.YtaakacahblndcaaMg03
import Derived.Deep.Cut
import Derived.Deep.CutRange
namespace Go.Proofs.Ytaakacahblndcaa
open Go.RowKit Go.Sort

theorem rowStore_stv (a : Addr) (v : Value) : storeVar 33 a v = rowStore 33 a v := rfl
theorem rowLoad_stv (a : Addr) : loadVar 33 a = rowLoad 33 a := rfl
theorem Try.sizeStv : (Try.prog.info? 33).map (·.size) = some 13 := by kernel_rfl
/-- The goal at whatever world for which a property holds. -/
theorem wp_world {P : Program} {c : Code} {Q : Exit → Act → World → Prop} {a : Act} {W : World} (p : World → Prop) (hW : p W) (h : ∀ wq, p wq → c.wp P Q a wq) : c.wp P Q a W := h W hW
/-- A statement as a value. -/
def stV (x : St × Sv × Sv) : Value := .agg (stE x).toArray
theorem stV_cells (x : St × Sv × Sv) : (stV x).cells = (stE x).toArray := rfl
theorem stV_one (x : St × Sv × Sv) : (stV x).cells.all (·.oneCell') = true := by
  rw [Array.all_eq_true_iff_forall_mem]
  intro v hv
  exact one_stE x v (by simpa [stV_cells] using hv)
theorem stV_load {w : World} {b o : Nat} {x : St × Sv × Sv} (h : w.rangeAt b o (stE x)) : (rowLoad 33 ⟨b, o, none⟩).run Try.prog w = .ok (stV x) w :=
  run_loadVar_mid w b o 33 (stE x) _ h Try.underlying33 rfl Try.sizeStv
theorem stV_box {w : World} {g : Nat} {x : St × Sv × Sv} {t : TypeId} {fr : Nat × Nat} (h : w.heap[g]? = some (.cells (stV x).cells t fr)) : (rowLoad 33 ⟨g, 0, none⟩).run Try.prog w = .ok (stV x) w :=
  run_rowLoad (P := Try.prog) w g t 33 (stE x).toArray fr _ h Try.underlying33 rfl Try.sizeStv
theorem alloc_setRow (w : World) (old cs : Array Value) (t : TypeId) : (w.alloc (.cells old t)).setRow w.heap.size cs = w.alloc (.cells cs t) := by
  unfold World.alloc World.setRow
  congr 1
  apply Array.ext
  · simp
  · intro i h1 h2
    simp only [Array.getElem_modify]
    by_cases e : w.heap.size = i
    · subst e; simp
    · have : i < w.heap.size := by simp at h2; omega
      rw [if_neg e, Array.getElem_push_lt this, Array.getElem_push_lt this]
theorem stV_new (w : World) (old : Array Value) (x : St × Sv × Sv) (ho : old.size = 13) : (rowStore 33 ⟨w.heap.size, 0, none⟩ (stV x)).run Try.prog (w.alloc (.cells old 33)) = .ok () (w.alloc (.cells (stV x).cells 33)) := by
  have h := run_rowStore (P := Try.prog) (w.alloc (.cells old 33)) w.heap.size 33 33 old (stV x).cells (heap_alloc_new w _) Try.sizeStv (by rw [ho]; rfl) (stV_one x)
  rw [alloc_setRow] at h
  exact h
/-- An element of a slice of statements, known whole. -/
theorem stv_get {P : Nat → Prop} {w : World} {ao : Option Addr} {l : List St} (h : SlAt stRep P w ao l) (k : Nat) (hk : k < l.length) :
    ∃ b off x, ao = some ⟨b, off, none⟩ ∧ P b ∧ b < w.heap.size ∧ Hid (l[k]? = some x.1) ∧ Lies P w x ∧ Hid (∀ w', w'.heap[b]? = w.heap[b]? → (rowLoad 33 ⟨b, off + k * 13, none⟩).run Try.prog w' = .ok (stV x) w') := by
  obtain ⟨b, off, s, l', p, e, hp, hl, hr, hx⟩ := st_get h k hk
  exact ⟨b, off, (s, l', p), e, hp, rangeAt_lt hr (by rw [stE_len]; decide), hx, hl, Lib.hid fun w' hw => stV_load (rangeAt_keep hr hw)⟩
theorem lies_len {P : Nat → Prop} {w : World} {x : St × Sv × Sv} (h : Lies P w x) : x.2.1.n = x.1.list.length ∧ x.2.2.n = x.1.pins.length := by
  obtain ⟨⟨_, _, e, _⟩, ⟨_, _, e', _⟩⟩ := h
  simp only [Sv.v, Value.slice.injEq] at e e'
  exact ⟨e.2.1, e'.2.1⟩
theorem check_v {P : Nat → Prop} (x : St × Sv × Sv) (w : World) (h : Lies P w x) (hm : x.1.list.length ≤ 9223372036854775807 ∧ x.1.pins.length ≤ 9223372036854775807) :
    Calls Try.prog 20 #[stV x] w fun e w' => e = .returned (.int .i64 (checkI x.1)) ∧ Ex w.heap.size none w w' := by
  have hl := lies_len h
  obtain ⟨s, ⟨lo, ln, lc⟩, ⟨po, pn, pc⟩⟩ := x
  exact checkP_any s lo po ln lc pn pc w h (by have h1 := hl.1; have h2 := hl.2; simp only at h1 h2 hm; omega)
theorem digest_v {P : Nat → Prop} (x : St × Sv × Sv) (w : World) (h : Lies P w x) (ht : Tame x.1) :
    Calls Try.prog 18 #[stV x] w fun e w' => e = .returned (.string (sha (stB x.1))) ∧ Ex w.heap.size none w w' := by
  obtain ⟨s, ⟨lo, ln, lc⟩, ⟨po, pn, pc⟩⟩ := x
  exact digestP_any s lo po ln lc pn pc w h ht
end Go.Proofs.Ytaakacahblndcaa

namespace Go.Proofs.Ytaakacahblndcaa
open Go.RowKit Go.Sort

/-- A statement of the author's that is right. -/
def okB (a : Int) (s : St) : Bool := decide (s.author = a) && decide (checkI s = 0) && sealedB s
theorem okB_iff {a : Int} {s : St} : okB a s = true ↔ s.author = a ∧ checkI s = 0 ∧ sealedB s = true := by
  simp only [okB, Bool.and_eq_true, decide_eq_true_eq, and_assoc]
/-- How links are held: a statement, its digest behind it. -/
def linkRep : Rep St where
  k := 14
  R := fun P w cs s => ∃ l p, cs = linkE (s, l, p) ∧ Lies P w (s, l, p)
  len := fun ⟨l, p, h, _⟩ => by subst h; exact linkE_len _
  one := fun ⟨l, p, h, _⟩ => by subst h; exact one_linkE _
  keep := fun ⟨l, p, h, hs⟩ hx => ⟨l, p, h, hs.keep hx⟩
  mono := fun ⟨l, p, h, hs⟩ hx => ⟨l, p, h, hs.mono hx⟩
def sameDigS (s t : St) : Bool := s.dig.toList == t.dig.toList
/-- What stays of a row of which neighbours with one digest are dropped. -/
def cptL (d : List St) : List St := cpt sameDigS d.toArray d.length
/-- ls: the right statements of an author, sorted by number and digest, neighbours with one digest dropped. -/
def LinksR (a : Int) (l ls : List St) : Prop := ∃ d : List St, d.Perm (l.filter (okB a)) ∧ (∀ (i j : Nat) (x y : St), i < j → d[i]? = some x → d[j]? = some y → ltNDs y x = false) ∧ ls = cptL d
theorem link_sl {P : Nat → Prop} {w : World} {g : Nat} {xs : List (St × Sv × Sv)} (hP : P g) (h : HoldsK linkE 14 w g 0 xs.toArray) (hl : ∀ x ∈ xs, Lies P w x) : SlAt linkRep P w (some ⟨g, 0, none⟩) (xs.map (·.1)) := fun i hi => by
  have hi' : i < xs.length := by simpa using hi
  refine ⟨g, 0, linkE xs[i], rfl, hP, ?_, xs[i].2.1, xs[i].2.2, by simp, by simpa using hl _ (List.getElem_mem hi')⟩
  have := holdsK_range linkE_len h i (by simpa using hi')
  rwa [getElem!_pos xs.toArray i hi', List.getElem_toArray] at this
theorem linksR_of {a : Int} {l : List St} {acc : List (St × Sv × Sv)} {d' : Array (St × Sv × Sv)} (h : acc.map (·.1) = l.filter (okB a)) (hp : d'.toList.Perm acc) (hs : SortedIn (ltOf cmpND) 0 d'.size d') (n : Nat) (hn : d'.size = n) : LinksR a l ((cpt sameDig d' n).map (·.1)) := by
  subst hn
  refine ⟨d'.toList.map (·.1), by rw [← h]; exact hp.map _, fun i j x y hij hi hj => ?_, ?_⟩
  · have hj' : j < d'.size := by have := (List.getElem?_eq_some_iff.1 hj).1; simpa using this
    have hi' : i < d'.size := by omega
    have k := hs i j (Nat.zero_le _) hij hj'
    rw [ltND_of, getElem!_pos d' i hi', getElem!_pos d' j hj'] at k
    simp only [List.getElem?_map, Array.getElem?_toList, Array.getElem?_eq_getElem hi', Array.getElem?_eq_getElem hj', Option.map_some, Option.some.injEq] at hi hj
    rw [← hi, ← hj]; exact k
  · rw [cpt_map (fun x : St × Sv × Sv => x.1) (eq := sameDig) (eq' := sameDigS) (fun _ _ => rfl) d' d'.size (Nat.le_refl _)]
    rw [show d'.map (fun x : St × Sv × Sv => x.1) = (d'.toList.map (fun x => x.1)).toArray by apply Array.ext'; simp]
    simp only [cptL, List.length_map, Array.length_toList]
theorem LinksR.mem {a : Int} {l ls : List St} (h : LinksR a l ls) : ∀ s ∈ ls, s ∈ l := fun s hs => by
  obtain ⟨d, hp, _, rfl⟩ := h
  have h1 : s ∈ d := by simpa using cpt_mem d.length (by simp) hs
  exact (List.mem_filter.1 (hp.mem_iff.1 h1)).1
theorem LinksR.ok {a : Int} {l ls : List St} (h : LinksR a l ls) : ∀ s ∈ ls, okB a s = true := fun s hs => by
  obtain ⟨d, hp, _, rfl⟩ := h
  have h1 : s ∈ d := by simpa using cpt_mem d.length (by simp) hs
  exact (List.mem_filter.1 (hp.mem_iff.1 h1)).2
theorem Try.infoLink : (Try.prog.info? 56).map (fun i => (i.zero, i.size, i.bytes)) = some (some (.agg #[.int .i64 0, .int .i64 0, .string ⟨#[]⟩, .int .i64 0, .int .i64 0, .int .i64 0, .int .i64 0, .int .i64 0, .slice none 0 0, .slice none 0 0, .string ⟨#[]⟩, .int .i64 0, .string ⟨#[]⟩, .string ⟨#[]⟩]), 14, 176) := by kernel_rfl

set_option maxHeartbeats 16000000 in
set_option maxRecDepth 100000 in
theorem links_any {P : Nat → Prop} (v : Value) (l : List St) (a : Int) (w : World) (hv : Sl stRep P w v l) (hm : l.length ≤ 100000) (hL : LightL 9223372036854775807 l) :
    Calls Try.prog 23 #[.int .i64 a, v] w fun e w' => ∃ u ls, e = .returned u ∧ LinksR a l ls ∧ Sl linkRep (fun b => P b ∨ w.heap.size ≤ b) w' u ls ∧ ls.length ≤ l.length ∧ Ex w.heap.size none w w' := by
  obtain ⟨ao, cap, rfl, hx⟩ := hv
  have HX := Lib.hid hx
  have HLL := Lib.hid hL
  clear hx hL
  go_enter Try.func23, Try.ntmps23
  go_wp2
  go_loopw [5, 10] (fun v i wr => ∃ (k n : Nat) (ro : Option Addr) (rc : Nat) (acc : List (St × Sv × Sv)), k ≤ l.length ∧ i = .int .i64 k ∧ v = .slice ro n rc ∧ Hid (acc.map (·.1) = (l.take k).filter (okB a) ∧ acc.length = n ∧ n ≤ k ∧ ∀ x ∈ acc, Lies P w x) ∧ OwnE linkE 14 56 wr w.heap.size ro rc acc ∧ Ex w.heap.size none w wr) (fun _ i _ => l.length - (intOf i).toNat)
  case atStart => exact ⟨0, 0, none, 0, [], by omega, rfl, rfl, Lib.hid ⟨by simp, rfl, by omega, fun x hx => by cases hx⟩, OwnE.nil _ _ _ _ _, Ex.refl _ _ _⟩
  case round =>
    obtain ⟨k, n, ro, rc, acc, hk, rfl, rfl, HA, hown, hex⟩ := hrel
    have hsz := hex.size
    have HEX := Lib.hid hex
    have HO := Lib.hid hown
    clear hown
    by_cases hlt : k < l.length
    · have hltI : (k : Int) < (l.length : Int) := by omega
      have hnk : n ≤ k := HA.out.2.2.1
      obtain ⟨b, off, s, ⟨lo, ln, lc⟩, ⟨po, pn, pc⟩, rfl, _, hls0, hr, HXs⟩ := st_get HX.out k hlt
      have HLG : Hid (s.list.length ≤ 9223372036854775807 ∧ s.pins.length ≤ 9223372036854775807) := Lib.hid (HLL.out s (List.mem_of_getElem? HXs.out))
      have HLN : Hid (ln = s.list.length) := by obtain ⟨⟨_, _, e, _⟩, _⟩ := hls0; simp only [Sv.v] at e; cases e; exact rfl
      have HPN : Hid (pn = s.pins.length) := by obtain ⟨_, ⟨_, _, e, _⟩⟩ := hls0; simp only [Sv.v] at e; cases e; exact rfl
      have hc := st_at (rangeAt_keep hr (hex.block b (rangeAt_lt hr (by rw [stE_len]; omega)) (by simp)))
      simp only [Sv.v] at hc
      obtain ⟨c0, c1, c2, c3, c4, c5, c6, c7, c8, c9, c10, c11, c12⟩ := hc
      have HLS0 := Lib.hid hls0
      clear hls0 hr hex
      go_upto_region 5 with (fail)
      obtain ⟨ws, hws⟩ : ∃ ws : World, ws = wr.alloc (.cells #[.int .i64 s.author, .int .i64 s.number, .string s.prev, .int .i64 s.time, .int .i64 s.kind, .int .i64 s.a, .int .i64 s.b, .int .i64 s.c, .slice lo ln lc, .slice po pn pc, .string s.body, .int .i64 s.key, .string s.dig] 33) := ⟨_, rfl⟩
      have HEs : Hid (Ex wr.heap.size none wr ws) := Lib.hid (by rw [hws]; exact Ex.new wr _)
      have hzs : ws.heap.size = wr.heap.size + 1 := by rw [hws]; simp
      have HBs : Hid (ws.heap[wr.heap.size]? = some (.cells #[.int .i64 s.author, .int .i64 s.number, .string s.prev, .int .i64 s.time, .int .i64 s.kind, .int .i64 s.a, .int .i64 s.b, .int .i64 s.c, .slice lo ln lc, .slice po pn pc, .string s.body, .int .i64 s.key, .string s.dig] 33 (0, 0))) := Lib.hid (by rw [hws]; exact heap_alloc_new wr _)
      have HQ : Hid (∀ w', Ex ws.heap.size none ws w' → w'.cell? ⟨wr.heap.size, 0, none⟩ = some (.int .i64 s.author) ∧ w'.cell? ⟨wr.heap.size, 1, none⟩ = some (.int .i64 s.number) ∧ w'.cell? ⟨wr.heap.size, 2, none⟩ = some (.string s.prev) ∧ w'.cell? ⟨wr.heap.size, 3, none⟩ = some (.int .i64 s.time) ∧ w'.cell? ⟨wr.heap.size, 4, none⟩ = some (.int .i64 s.kind) ∧ w'.cell? ⟨wr.heap.size, 5, none⟩ = some (.int .i64 s.a) ∧ w'.cell? ⟨wr.heap.size, 6, none⟩ = some (.int .i64 s.b) ∧ w'.cell? ⟨wr.heap.size, 7, none⟩ = some (.int .i64 s.c) ∧ w'.cell? ⟨wr.heap.size, 8, none⟩ = some (.slice lo ln lc) ∧ w'.cell? ⟨wr.heap.size, 9, none⟩ = some (.slice po pn pc) ∧ w'.cell? ⟨wr.heap.size, 10, none⟩ = some (.string s.body) ∧ w'.cell? ⟨wr.heap.size, 11, none⟩ = some (.int .i64 s.key) ∧ w'.cell? ⟨wr.heap.size, 12, none⟩ = some (.string s.dig)) := Lib.hid (fun w' h => (st_block ((h.block wr.heap.size (by omega) (by simp)).trans HBs.out)).1)
      have HLS : Hid (∀ w', Ex ws.heap.size none ws w' → Lies P w' (s, ⟨lo, ln, lc⟩, ⟨po, pn, pc⟩)) := Lib.hid (fun w' h => HLS0.out.keep fun b _ hb => (h.block b (by omega) (by simp)).trans ((HEs.out.block b (by omega) (by simp)).trans (HEX.out.block b hb (by simp))))
      obtain ⟨q, hq0⟩ : ∃ q, q = checkI s := ⟨_, rfl⟩
      have HCQ : Hid (checkI s = q) := Lib.hid hq0.symm
      have HCK : Hid (∀ w', Ex ws.heap.size none ws w' → Calls Try.prog 20 #[.agg #[.int .i64 s.author, .int .i64 s.number, .string s.prev, .int .i64 s.time, .int .i64 s.kind, .int .i64 s.a, .int .i64 s.b, .int .i64 s.c, .slice lo ln lc, .slice po pn pc, .string s.body, .int .i64 s.key, .string s.dig]] w' fun e w'' => e = .returned (.int .i64 q) ∧ Ex w'.heap.size none w' w'') := Lib.hid (fun w' h => by rw [hq0]; exact checkP_any s lo po ln lc pn pc w' (HLS.out w' h) (by rw [HLN.out, HPN.out]; exact HLG.out))
      clear hq0
      rw [← hws]
      clear hws c0 c1 c2 c3 c4 c5 c6 c7 c8 c9 c10 c11 c12
      obtain ⟨d0, d1, d2, d3, d4, d5, d6, d7, d8, d9, d10, d11, d12⟩ := HQ.out _ (Ex.refl _ _ ws)
      by_cases t1 : s.author = a
      case neg =>
        have k1 : (s.author == a) = false := by simpa using t1
        have HNO : Hid (okB a s = false) := Lib.hid (by simp [okB, t1])
        clear t1
        go_wp2_with (fail)
        go_roundw
        case rel => exact ⟨k + 1, n, ro, rc, acc, by omega, by go_num, rfl, Lib.hid ⟨by rw [filter_no HXs.out HNO.out]; exact HA.out.1, HA.out.2.1, by have := HA.out.2.2.1; omega, HA.out.2.2.2⟩, HO.out.keep (HEs.out.trans (Ex.refl ws.heap.size none ws) (by omega) (by simp)) (Nat.le_refl _) (by simp), HEX.out.trans (HEs.out.trans (Ex.refl ws.heap.size none ws) (by omega) (by simp)) hsz (by simp)⟩
        case measure => simp [intOf] <;> omega
      have k1 : (s.author == a) = true := by simpa using t1
      have HT1 := Lib.hid t1
      clear t1
      by_cases t2 : q = 0
      case neg =>
        have k2 : (q == 0) = false := by simpa using t2
        have HNO : Hid (okB a s = false) := Lib.hid (by simp [okB, HCQ.out, t2])
        clear t2
        go_wp2_with (first
          | (go_at_call 20
             refine (HCK.out _ (Ex.refl _ _ ws)).mono ?_
             rintro e w7 ⟨rfl, hex7⟩
             have HE7 : Hid (Ex ws.heap.size none ws w7) := Lib.hid hex7
             have hz7 : ws.heap.size ≤ w7.heap.size := hex7.size
             clear hex7 d0 d1 d2 d3 d4 d5 d6 d7 d8 d9 d10 d11 d12
             obtain ⟨d0, d1, d2, d3, d4, d5, d6, d7, d8, d9, d10, d11, d12⟩ := HQ.out _ HE7.out)
          | fail)
        go_roundw
        case rel => exact ⟨k + 1, n, ro, rc, acc, by omega, by go_num, rfl, Lib.hid ⟨by rw [filter_no HXs.out HNO.out]; exact HA.out.1, HA.out.2.1, by have := HA.out.2.2.1; omega, HA.out.2.2.2⟩, HO.out.keep (HEs.out.trans HE7.out (by omega) (by simp)) (Nat.le_refl _) (by simp), HEX.out.trans (HEs.out.trans HE7.out (by omega) (by simp)) hsz (by simp)⟩
        case measure => simp [intOf] <;> omega
      have k2 : (q == 0) = true := by simpa using t2
      have HT2 : Hid (checkI s = 0) := Lib.hid (HCQ.out.trans t2)
      have HTM := Lib.hid (checkI_tame HT2.out)
      clear t2
      cases t3 : sealedB s with
      | false =>
        have HNO : Hid (okB a s = false) := Lib.hid (by simp [okB, t3])
        have HSL : Hid (∀ w', Ex ws.heap.size none ws w' → Calls Try.prog 41 #[.agg #[.int .i64 s.author, .int .i64 s.number, .string s.prev, .int .i64 s.time, .int .i64 s.kind, .int .i64 s.a, .int .i64 s.b, .int .i64 s.c, .slice lo ln lc, .slice po pn pc, .string s.body, .int .i64 s.key, .string s.dig]] w' fun e w'' => e = .returned (.bool false) ∧ Ex w'.heap.size none w' w'') := Lib.hid (fun w' h => asB (sealedP_any s lo po ln lc pn pc w' (HLS.out w' h) HTM.out) t3)
        clear t3
        go_wp2_with (first
          | (go_at_call 20
             refine (HCK.out _ (Ex.refl _ _ ws)).mono ?_
             rintro e w7 ⟨rfl, hex7⟩
             have HE7 : Hid (Ex ws.heap.size none ws w7) := Lib.hid hex7
             have hz7 : ws.heap.size ≤ w7.heap.size := hex7.size
             clear hex7 d0 d1 d2 d3 d4 d5 d6 d7 d8 d9 d10 d11 d12
             obtain ⟨d0, d1, d2, d3, d4, d5, d6, d7, d8, d9, d10, d11, d12⟩ := HQ.out _ HE7.out)
          | (go_at_call 41
             refine (HSL.out _ HE7.out).mono ?_
             rintro e w8 ⟨rfl, hex8⟩
             have HE8 : Hid (Ex ws.heap.size none ws w8) := Lib.hid (HE7.out.trans hex8 hz7 (by simp))
             have hz8 : ws.heap.size ≤ w8.heap.size := HE8.out.size
             clear hex8 d0 d1 d2 d3 d4 d5 d6 d7 d8 d9 d10 d11 d12
             obtain ⟨d0, d1, d2, d3, d4, d5, d6, d7, d8, d9, d10, d11, d12⟩ := HQ.out _ HE8.out)
          | fail)
        go_roundw
        case rel => exact ⟨k + 1, n, ro, rc, acc, by omega, by go_num, rfl, Lib.hid ⟨by rw [filter_no HXs.out HNO.out]; exact HA.out.1, HA.out.2.1, by have := HA.out.2.2.1; omega, HA.out.2.2.2⟩, HO.out.keep (HEs.out.trans HE8.out (by omega) (by simp)) (Nat.le_refl _) (by simp), HEX.out.trans (HEs.out.trans HE8.out (by omega) (by simp)) hsz (by simp)⟩
        case measure => simp [intOf] <;> omega
      | true =>
        have HYES : Hid (okB a s = true) := Lib.hid (okB_iff.2 ⟨HT1.out, HT2.out, t3⟩)
        have HSL : Hid (∀ w', Ex ws.heap.size none ws w' → Calls Try.prog 41 #[.agg #[.int .i64 s.author, .int .i64 s.number, .string s.prev, .int .i64 s.time, .int .i64 s.kind, .int .i64 s.a, .int .i64 s.b, .int .i64 s.c, .slice lo ln lc, .slice po pn pc, .string s.body, .int .i64 s.key, .string s.dig]] w' fun e w'' => e = .returned (.bool true) ∧ Ex w'.heap.size none w' w'') := Lib.hid (fun w' h => asB (sealedP_any s lo po ln lc pn pc w' (HLS.out w' h) HTM.out) t3)
        clear t3
        have HAL : Hid (acc.length = n) := Lib.hid HA.out.2.1
        go_wp2_with (first
          | (go_at_call 20
             refine (HCK.out _ (Ex.refl _ _ ws)).mono ?_
             rintro e w7 ⟨rfl, hex7⟩
             have HE7 : Hid (Ex ws.heap.size none ws w7) := Lib.hid hex7
             have hz7 : ws.heap.size ≤ w7.heap.size := hex7.size
             clear hex7 d0 d1 d2 d3 d4 d5 d6 d7 d8 d9 d10 d11 d12
             obtain ⟨d0, d1, d2, d3, d4, d5, d6, d7, d8, d9, d10, d11, d12⟩ := HQ.out _ HE7.out)
          | (go_at_call 41
             refine (HSL.out _ HE7.out).mono ?_
             rintro e w8 ⟨rfl, hex8⟩
             have HE8 : Hid (Ex ws.heap.size none ws w8) := Lib.hid (HE7.out.trans hex8 hz7 (by simp))
             have hz8 : ws.heap.size ≤ w8.heap.size := HE8.out.size
             clear hex8 d0 d1 d2 d3 d4 d5 d6 d7 d8 d9 d10 d11 d12
             obtain ⟨d0, d1, d2, d3, d4, d5, d6, d7, d8, d9, d10, d11, d12⟩ := HQ.out _ HE8.out)
          | (at_builtin; refine wpList_appE2 rfl (.tmp 27) (.tmp 33) _ 56 (by rfl) Try.underlying53 _ 14 176 Try.infoLink rfl (by decide) (by decide) linkE linkE_len one_linkE w.heap.size ro rc n acc HAL.out (by rfl) (some ⟨w8.heap.size, 0, none⟩) 1 1 (by rfl) [(s, ⟨lo, ln, lc⟩, ⟨po, pn, pc⟩)] rfl ((HO.out.keep (HEs.out.trans HE8.out (by omega) (by simp)) (Nat.le_refl _) (by simp)).keep (Ex.new w8 _) (Nat.le_refl _) (by simp)) (lit_cells (by rfl)) (by omega) (by simp; omega) (n + 1) rfl ?_; intro ro2 rc2 w6 hown6 hex6 _ _)
          | fail)
        have HO6 := Lib.hid hown6
        have HE6 : Hid (Ex w.heap.size none w w6) := Lib.hid (((HEX.out.trans (HEs.out.trans HE8.out (by omega) (by simp)) hsz (by simp)).trans (Ex.new w8 _) (by omega) (by simp)).trans hex6 (Nat.le_refl _) (by simp))
        clear hown6 hex6
        go_roundw
        case rel => exact ⟨k + 1, n + 1, ro2, rc2, acc ++ [(s, ⟨lo, ln, lc⟩, ⟨po, pn, pc⟩)], by omega, by go_num, rfl, Lib.hid ⟨by rw [filter_yes HXs.out HYES.out, List.map_append, HA.out.1]; rfl, by rw [List.length_append, HAL.out]; rfl, by omega, fun x hx => by
          rcases List.mem_append.1 hx with h | h
          · exact HA.out.2.2.2 x h
          · rw [List.mem_singleton.1 h]; exact HLS0.out⟩, HO6.out, HE6.out⟩
        case measure => simp [intOf] <;> omega
    · obtain rfl : k = l.length := by omega
      have hnk : n ≤ l.length := HA.out.2.2.1
      have HF : Hid (acc.map (·.1) = l.filter (okB a)) := Lib.hid (by have := HA.out.1; rwa [List.take_length] at this)
      have HAL : Hid (acc.length = n) := Lib.hid HA.out.2.1
      clear hex
      rcases HO.out.cases with ⟨e1, e2, e3⟩ | ⟨g, e1, hg1, hg2, hg3⟩
      · subst e1 e2
        have hn0 : n = 0 := by rw [← HAL.out, e3]; rfl
        have HLR : Hid (LinksR a l []) := Lib.hid (by
          have h := HF.out
          rw [e3] at h
          exact ⟨[], by rw [← h]; exact List.Perm.refl _, fun i j x y _ h => by simp at h, rfl⟩)
        clear e3
        subst hn0
        go_wp2_with (first
          | (go_at_call 42; refine (sortLink_none _ _ _ _).mono ?_; rintro e w' ⟨rfl, rfl⟩)
          | (go_at_call 47; refine (compactLink_none _ _ _ _).mono ?_; rintro e w' ⟨rfl, rfl⟩)
          | fail)
        go_ret
        exact ⟨_, [], rfl, HLR.out, Sl.nil _ _, by simp, HEX.out⟩
      · subst e1
        have HH : Hid (HoldsK linkE 14 wr g 0 acc.toArray) := Lib.hid (HO.out.holds linkE_len)
        have hcap : n ≤ rc := by rw [← HAL.out]; exact hg3
        have HSZ : Hid (acc.toArray.size = n) := Lib.hid (by simpa using HAL.out)
        go_wp2_with (first
          | (go_at_call 42
             refine (sortLink_any g 0 rc n acc.toArray wr HH.out hg2 HSZ.out (by omega)).mono ?_
             rintro e w1 ⟨rfl, d', hH1, hd1, hp1, hs1, hex1⟩
             have HD : Hid (HoldsK linkE 14 w1 g 0 d' ∧ d'.size = n ∧ d'.toList.Perm acc ∧ SortedIn (ltOf cmpND) 0 d'.size d' ∧ Ex wr.heap.size (some g) wr w1) := Lib.hid ⟨hH1, hd1, by simpa using hp1, hs1, hex1⟩
             have hz1 : wr.heap.size ≤ w1.heap.size := hex1.size
             clear hH1 hd1 hp1 hs1 hex1)
          | (go_at_call 47
             refine (compactLinks_any g rc n d' w1 HD.out.1 (by omega) HD.out.2.1 (by omega) hcap).mono ?_
             rintro e w2 ⟨rfl, hH2, hex2⟩
             have HC : Hid (HoldsK linkE 14 w2 g 0 (cpt sameDig d' n).toArray ∧ Ex w1.heap.size (some g) w1 w2) := Lib.hid ⟨hH2, hex2⟩
             clear hH2 hex2)
          | fail)
        go_ret
        have hE : Ex w.heap.size none w w2 := HEX.out.trans (HD.out.2.2.2.2.trans HC.out.2 hz1 (fun q h _ => h)) hsz (fun q h hq => by cases h; omega)
        refine ⟨.slice (some ⟨g, 0, none⟩) (cpt sameDig d' n).length rc, (cpt sameDig d' n).map (·.1), by rfl, linksR_of HF.out HD.out.2.2.1 HD.out.2.2.2.1 n HD.out.2.1, ⟨some ⟨g, 0, none⟩, rc, by rw [List.length_map], link_sl (.inr hg1) HC.out.1 fun x hx => ?_⟩, ?_, hE⟩
        · have hmem : x ∈ acc := HD.out.2.2.1.mem_iff.1 (cpt_mem n (by rw [HD.out.2.1]; exact Nat.le_refl _) hx)
          exact (HA.out.2.2.2 x hmem).keep (fun b _ hb => hE.block b hb (by simp)) |>.mono fun _ hb _ => .inl hb
        · have := cpt_le sameDig d' n
          rw [List.length_map]; omega
end Go.Proofs.Ytaakacahblndcaa

namespace Go.Proofs.Ytaakacahblndcaa
open Go.RowKit Go.Sort

theorem link_get {P : Nat → Prop} {w : World} {ao : Option Addr} {xs : List St} (h : SlAt linkRep P w ao xs) (i : Nat) (hi : i < xs.length) : ∃ b off s l p, ao = some ⟨b, off, none⟩ ∧ P b ∧ Lies P w (s, l, p) ∧ w.rangeAt b (off + i * 14) (linkE (s, l, p)) ∧ Hid (xs[i]? = some s) := by
  obtain ⟨b, off, cs, s, e, hp, hr, ⟨l, p, rfl, hl⟩, hx⟩ := h.get i hi
  exact ⟨b, off, s, l, p, e, hp, hl, hr, hx⟩
theorem link_at {w : World} {b o : Nat} {s : St} {lo po : Option Addr} {ln lc pn pc : Nat} (h : w.rangeAt b o (linkE (s, ⟨lo, ln, lc⟩, ⟨po, pn, pc⟩))) :
    w.cell? ⟨b, o, none⟩ = some (.int .i64 s.author) ∧ w.cell? ⟨b, o + 1, none⟩ = some (.int .i64 s.number) ∧ w.cell? ⟨b, o + 2, none⟩ = some (.string s.prev) ∧ w.cell? ⟨b, o + 3, none⟩ = some (.int .i64 s.time) ∧ w.cell? ⟨b, o + 4, none⟩ = some (.int .i64 s.kind) ∧ w.cell? ⟨b, o + 5, none⟩ = some (.int .i64 s.a) ∧ w.cell? ⟨b, o + 6, none⟩ = some (.int .i64 s.b) ∧ w.cell? ⟨b, o + 7, none⟩ = some (.int .i64 s.c) ∧ w.cell? ⟨b, o + 8, none⟩ = some (.slice lo ln lc) ∧ w.cell? ⟨b, o + 9, none⟩ = some (.slice po pn pc) ∧ w.cell? ⟨b, o + 10, none⟩ = some (.string s.body) ∧ w.cell? ⟨b, o + 11, none⟩ = some (.int .i64 s.key) ∧ w.cell? ⟨b, o + 12, none⟩ = some (.string s.dig) ∧ w.cell? ⟨b, o + 13, none⟩ = some (.string s.dig) :=
  ⟨h 0 _ rfl, h 1 _ rfl, h 2 _ rfl, h 3 _ rfl, h 4 _ rfl, h 5 _ rfl, h 6 _ rfl, h 7 _ rfl, h 8 _ rfl, h 9 _ rfl, h 10 _ rfl, h 11 _ rfl, h 12 _ rfl, h 13 _ rfl⟩
theorem rowStore_fork (a : Addr) (v : Value) : storeVar 42 a v = rowStore 42 a v := rfl
theorem Try.sizeFork : (Try.prog.info? 42).map (·.size) = some 26 := by kernel_rfl
/-- The first two neighbours with one number. -/
def forkF : List St → Option (St × St)
  | s :: t :: r => if s.number = t.number then some (s, t) else forkF (t :: r)
  | _ => none
theorem forkF_some {ls : List St} : ∀ {k : Nat} {s t : St}, (∀ j x y, j < k → ls[j]? = some x → ls[j + 1]? = some y → ¬ x.number = y.number) → ls[k]? = some s → ls[k + 1]? = some t → s.number = t.number → forkF ls = some (s, t) := by
  induction ls with
  | nil => intro k s t _ h; simp at h
  | cons a r ih =>
    intro k s t hno hs ht he
    match r, k with
    | [], 0 => simp at ht
    | [], k + 1 => simp at hs
    | b :: r, 0 =>
      simp only [List.getElem?_cons_zero, List.getElem?_cons_succ, Option.some.injEq] at hs ht
      subst hs ht
      simp [forkF, he]
    | b :: r, k + 1 =>
      have h0 := hno 0 a b (by omega) rfl rfl
      unfold forkF
      rw [if_neg h0]
      exact ih (fun j x y hj hx hy => hno (j + 1) x y (by omega) hx hy) hs ht he
theorem forkF_none {ls : List St} : (∀ j x y, ls[j]? = some x → ls[j + 1]? = some y → ¬ x.number = y.number) → forkF ls = none := by
  induction ls with
  | nil => exact fun _ => rfl
  | cons a r ih =>
    intro hno
    match r with
    | [] => rfl
    | b :: r =>
      unfold forkF
      rw [if_neg (hno 0 a b rfl rfl)]
      exact ih fun j x y hx hy => hno (j + 1) x y hx hy
/-- The cells of a fork: of none: all nought. -/
def ForkC (w : World) (base : Nat) (cs : Array Value) : Option (St × St) → Prop
  | none => cs = #[.int .i64 0, .int .i64 0, .string ⟨#[]⟩, .int .i64 0, .int .i64 0, .int .i64 0, .int .i64 0, .int .i64 0, .slice none 0 0, .slice none 0 0, .string ⟨#[]⟩, .int .i64 0, .string ⟨#[]⟩, .int .i64 0, .int .i64 0, .string ⟨#[]⟩, .int .i64 0, .int .i64 0, .int .i64 0, .int .i64 0, .int .i64 0, .slice none 0 0, .slice none 0 0, .string ⟨#[]⟩, .int .i64 0, .string ⟨#[]⟩]
  | some (s, t) => ∃ (la : Option Addr) (na ca : Nat) (pa : Option Addr) (np cp : Nat) (lb : Option Addr) (nb cb : Nat) (pb : Option Addr) (nq cq : Nat), cs = #[.int .i64 s.author, .int .i64 s.number, .string s.prev, .int .i64 s.time, .int .i64 s.kind, .int .i64 s.a, .int .i64 s.b, .int .i64 s.c, .slice la na ca, .slice pa np cp, .string s.body, .int .i64 s.key, .string s.dig, .int .i64 t.author, .int .i64 t.number, .string t.prev, .int .i64 t.time, .int .i64 t.kind, .int .i64 t.a, .int .i64 t.b, .int .i64 t.c, .slice lb nb cb, .slice pb nq cq, .string t.body, .int .i64 t.key, .string t.dig] ∧ Lies (fun b => base ≤ b) w (s, ⟨la, na, ca⟩, ⟨pa, np, cp⟩) ∧ Lies (fun b => base ≤ b) w (t, ⟨lb, nb, cb⟩, ⟨pb, nq, cq⟩)
theorem ForkC.size {w : World} {base : Nat} {cs : Array Value} {r : Option (St × St)} (h : ForkC w base cs r) : cs.size = 26 := by
  match r, h with
  | none, h => rw [show cs = _ from h]; rfl
  | some (s, t), ⟨_, _, _, _, _, _, _, _, _, _, _, _, h, _⟩ => rw [h]; rfl
theorem ForkC.one {w : World} {base : Nat} {cs : Array Value} {r : Option (St × St)} (h : ForkC w base cs r) : cs.all (·.oneCell') = true := by
  match r, h with
  | none, h => rw [show cs = _ from h]; simp [Value.oneCell']
  | some (s, t), ⟨_, _, _, _, _, _, _, _, _, _, _, _, h, _⟩ => rw [h]; simp [Value.oneCell']
end Go.Proofs.Ytaakacahblndcaa

namespace Go.Proofs.Ytaakacahblndcaa
open Go.RowKit Go.Sort

theorem rowStore_lkv (a : Addr) (v : Value) : storeVar 56 a v = rowStore 56 a v := rfl
theorem rowLoad_lkv (a : Addr) : loadVar 56 a = rowLoad 56 a := rfl
theorem Try.sizeLkv : (Try.prog.info? 56).map (·.size) = some 14 := by kernel_rfl
attribute [local go_sem ↓] rowLoad_stv rowStore_stv rowLoad_lkv rowStore_lkv
/-- A link as a value. -/
def linkV (x : St × Sv × Sv) : Value := .agg (linkE x).toArray
theorem linkV_cells (x : St × Sv × Sv) : (linkV x).cells = (linkE x).toArray := rfl
theorem linkV_one (x : St × Sv × Sv) : (linkV x).cells.all (·.oneCell') = true := by
  rw [Array.all_eq_true_iff_forall_mem]
  intro v hv
  exact one_linkE x v (by simpa [linkV_cells] using hv)
theorem linkV_load {w : World} {b o : Nat} {x : St × Sv × Sv} (h : w.rangeAt b o (linkE x)) : (rowLoad 56 ⟨b, o, none⟩).run Try.prog w = .ok (linkV x) w :=
  run_loadVar_mid w b o 56 (linkE x) _ h Try.underlying56 rfl Try.sizeLkv
theorem linkV_box {w : World} {g : Nat} {x : St × Sv × Sv} {t : TypeId} {fr : Nat × Nat} (h : w.heap[g]? = some (.cells (linkV x).cells t fr)) : (rowLoad 56 ⟨g, 0, none⟩).run Try.prog w = .ok (linkV x) w :=
  run_rowLoad (P := Try.prog) w g t 56 (linkE x).toArray fr _ h Try.underlying56 rfl Try.sizeLkv
theorem linkV_new (w : World) (old : Array Value) (x : St × Sv × Sv) (ho : old.size = 14) : (rowStore 56 ⟨w.heap.size, 0, none⟩ (linkV x)).run Try.prog (w.alloc (.cells old 56)) = .ok () (w.alloc (.cells (linkV x).cells 56)) := by
  have h := run_rowStore (P := Try.prog) (w.alloc (.cells old 56)) w.heap.size 56 56 old (linkV x).cells (heap_alloc_new w _) Try.sizeLkv (by rw [ho]; rfl) (linkV_one x)
  rw [alloc_setRow] at h
  exact h
/-- The cells of a link in a block of its own. -/
theorem linkV_cell {w : World} {g : Nat} {x : St × Sv × Sv} {t : TypeId} {fr : Nat × Nat} (h : w.heap[g]? = some (.cells (linkV x).cells t fr)) (j : Nat) : w.cell? ⟨g, j, none⟩ = (linkE x)[j]? := by
  rw [cell_of_row _ _ _ _ _ _ h, linkV_cells]
  simp
theorem linkV_cells5 {w : World} {g : Nat} {x : St × Sv × Sv} {t : TypeId} {fr : Nat × Nat} (h : w.heap[g]? = some (.cells (linkV x).cells t fr)) : w.cell? ⟨g, 0, none⟩ = some (.int .i64 x.1.author) ∧ w.cell? ⟨g, 1, none⟩ = some (.int .i64 x.1.number) ∧ w.cell? ⟨g, 2, none⟩ = some (.string x.1.prev) ∧ w.cell? ⟨g, 3, none⟩ = some (.int .i64 x.1.time) ∧ w.cell? ⟨g, 13, none⟩ = some (.string x.1.dig) :=
  ⟨linkV_cell h 0, linkV_cell h 1, linkV_cell h 2, linkV_cell h 3, linkV_cell h 13⟩
/-- The statement of a link in a block of its own. -/
theorem linkV_st {w : World} {g : Nat} {x : St × Sv × Sv} {t : TypeId} {fr : Nat × Nat} (h : w.heap[g]? = some (.cells (linkV x).cells t fr)) : (rowLoad 33 ⟨g, 0, none⟩).run Try.prog w = .ok (stV x) w :=
  stV_load fun j v hj => by
    rw [Nat.zero_add, linkV_cell h]
    have : linkE x = stE x ++ [.string x.1.dig] := rfl
    rw [this, List.getElem?_append_left (List.getElem?_eq_some_iff.1 hj).1]
    exact hj
theorem lkv_get {P : Nat → Prop} {w : World} {ao : Option Addr} {l : List St} (h : SlAt linkRep P w ao l) (k : Nat) (hk : k < l.length) :
    ∃ b off x, ao = some ⟨b, off, none⟩ ∧ P b ∧ b < w.heap.size ∧ Hid (l[k]? = some x.1) ∧ Lies P w x ∧ Hid (w.rangeAt b (off + k * 14) (linkE x)) := by
  obtain ⟨b, off, s, l', p, e, hp, hl, hr, hx⟩ := link_get h k hk
  exact ⟨b, off, (s, l', p), e, hp, rangeAt_lt hr (by rw [linkE_len]; decide), hx, hl, Lib.hid hr⟩
theorem copied_v {P : Nat → Prop} (x : St × Sv × Sv) (w : World) (h : Lies P w x) (hm : x.1.list.length ≤ 1000000 ∧ x.1.pins.length ≤ 1000000) :
    Calls Try.prog 17 #[stV x] w fun e w' => ∃ y, e = .returned (stV y) ∧ y.1 = x.1 ∧ Lies (fun b => w.heap.size ≤ b) w' y ∧ Ex w.heap.size none w w' := by
  obtain ⟨s, ⟨lo, ln, lc⟩, ⟨po, pn, pc⟩⟩ := x
  exact (copied_any s lo po ln lc pn pc w h hm).mono fun e w' ⟨la, na, ca, pa, np, cp, h1, h2, h3⟩ => ⟨(s, ⟨la, na, ca⟩, ⟨pa, np, cp⟩), h1, rfl, h2, h3⟩
/-- A link follows another. -/
def followsL (a b : St) : Bool := decide (b.author = a.author) && decide (a.number < b.number) && decide (b.number - 1 = a.number) && (b.prev.toList == a.dig.toList) && decide (a.time ≤ b.time)
theorem followsL_iff {a b : St} : followsL a b = true ↔ b.author = a.author ∧ b.number = a.number + 1 ∧ b.prev = a.dig ∧ a.time ≤ b.time := by
  unfold followsL
  rw [toListB]
  simp only [Bool.and_eq_true, decide_eq_true_eq]
  constructor
  · rintro ⟨⟨⟨⟨h1, h2⟩, h3⟩, h4⟩, h5⟩
    exact ⟨h1, by omega, h4, h5⟩
  · rintro ⟨h1, h2, h4, h5⟩
    exact ⟨⟨⟨⟨h1, by omega⟩, by omega⟩, h4⟩, h5⟩
set_option maxHeartbeats 4000000 in
set_option maxRecDepth 100000 in
theorem follows_v (x y : St × Sv × Sv) (w : World) (hx : -9223372036854775808 ≤ x.1.number) (hy : y.1.number ≤ 9223372036854775807) :
    Calls Try.prog 24 #[linkV x, linkV y] w fun e w' => e = .returned (.bool (followsL x.1 y.1)) ∧ Ex w.heap.size none w w' := by
  obtain ⟨s, hs⟩ : ∃ s, s = x.1 := ⟨_, rfl⟩
  obtain ⟨t, ht⟩ : ∃ t, t = y.1 := ⟨_, rfl⟩
  obtain ⟨ws, hws⟩ : ∃ ws : World, ws = (w.alloc (.cells (linkV x).cells 56)).alloc (.cells (linkV y).cells 56) := ⟨_, rfl⟩
  have HEs : Hid (Ex w.heap.size none w ws) := Lib.hid (by rw [hws]; exact (Ex.new w _).alloc (by simp) _)
  have h2 : ws.heap[w.heap.size + 1]? = some (.cells (linkV y).cells 56 (0, 0)) := by
    rw [hws]
    have := heap_alloc_new (w.alloc (.cells (linkV x).cells 56)) (.cells (linkV y).cells 56)
    rwa [World.size_alloc] at this
  have h1 : ws.heap[w.heap.size]? = some (.cells (linkV x).cells 56 (0, 0)) := by
    rw [hws]
    exact ((Ex.new (w.alloc (.cells (linkV x).cells 56)) _).block w.heap.size (by simp) (by simp)).trans (heap_alloc_new w _)
  obtain ⟨a0, a1, a2, a3, a13⟩ := linkV_cells5 h1
  obtain ⟨b0, b1, b2, b3, b13⟩ := linkV_cells5 h2
  rw [← hs] at a0 a1 a2 a3 a13 hx ⊢
  rw [← ht] at b0 b1 b2 b3 b13 hy ⊢
  clear h1 h2 hs ht
  go_enter Try.func24, Try.ntmps24
  go_upto_region 1 with (fail)
  refine wp_world (fun W => W = ws) (by rw [hws]; rfl) (fun W hW => ?_)
  rw [hW]
  clear hW W hws
  by_cases t1 : t.author = s.author
  case neg =>
    have k1 : (t.author == s.author) = false := by simpa using t1
    have HF : Hid (followsL s t = false) := Lib.hid (by simp [followsL, t1])
    clear t1
    go_wp2
    go_ret
    exact ⟨by rw [HF.out]; rfl, HEs.out⟩
  have k1 : (t.author == s.author) = true := by simpa using t1
  have HT1 := Lib.hid t1
  clear t1
  by_cases t2 : s.number < t.number
  case neg =>
    have k2 : decide (s.number < t.number) = false := decide_eq_false t2
    have HF : Hid (followsL s t = false) := Lib.hid (by simp [followsL, k2])
    clear t2
    go_wp2
    go_ret
    exact ⟨by rw [HF.out]; rfl, HEs.out⟩
  have k2 : decide (s.number < t.number) = true := decide_eq_true t2
  have kw : IntKind.i64.wrap (t.number - 1) = t.number - 1 := by rw [IntKind.wrap_i64]; omega
  by_cases t3 : t.number - 1 = s.number
  case neg =>
    have k3 : (t.number - 1 == s.number) = false := by simpa using t3
    have HF : Hid (followsL s t = false) := Lib.hid (by simp [followsL, t3])
    clear t3 t2
    go_wp2
    go_ret
    exact ⟨by rw [HF.out]; rfl, HEs.out⟩
  have k3 : (t.number - 1 == s.number) = true := by simpa using t3
  have HT3 := Lib.hid t3
  have HT2 := Lib.hid t2
  clear t3 t2
  cases t4 : (t.prev.toList == s.dig.toList) with
  | false =>
    have HF : Hid (followsL s t = false) := Lib.hid (by simp [followsL, t4])
    go_wp2
    go_ret
    exact ⟨by rw [HF.out]; rfl, HEs.out⟩
  | true =>
    have HF : Hid (followsL s t = decide (s.time ≤ t.time)) := Lib.hid (by simp [followsL, t4, HT1.out, HT2.out, HT3.out])
    go_wp2
    go_ret
    exact ⟨by rw [HF.out]; rfl, HEs.out⟩
end Go.Proofs.Ytaakacahblndcaa

namespace Go.Proofs.Ytaakacahblndcaa
open Go.RowKit Go.Sort
attribute [local go_sem ↓] rowLoad_stv rowStore_stv

/-- The statement at a place stands behind the one ahead of it. -/
def behindAt (l : List St) (s : St) : Nat → Bool
  | 0 => true
  | j + 1 => match l[j]? with
    | none => true
    | some t => ltA t s
/-- What a store asks of the statement at a place. -/
def rightAt (l : List St) (k : Nat) : Bool := match l[k]? with
  | none => true
  | some s => decide (checkI s = 0) && sealedB s && behindAt l s k
/-- store.Valid. -/
def validB (l : List St) : Bool := decide (l.length ≤ 1000) && (List.range l.length).all fun k => rightAt l k
def Goods (l : List St) (k : Nat) : Prop := ∀ j, j < k → rightAt l j = true
/-- Each statement of a valid store stands behind those ahead of it. -/
def RisingA (l : List St) : Prop := ∀ (i j : Nat) (s t : St), i < j → l[i]? = some s → l[j]? = some t → ltA s t = true
end Go.Proofs.Ytaakacahblndcaa

namespace Go.Proofs.Ytaakacahblndcaa
open Go.RowKit Go.Sort
attribute [local go_sem ↓] rowLoad_stv rowStore_stv

def LoA (l : List St) (x : St) (i : Nat) : Prop := ∀ (t : Nat) (y : St), t < i → l[t]? = some y → ltA y x = true
def HiA (l : List St) (x : St) (j : Nat) : Prop := ∀ (t : Nat) (y : St), j ≤ t → l[t]? = some y → ltA y x = false
/-- What the search answers: so many stand ahead of it, and whether the next one is its equal. -/
def SearchR (l : List St) (x : St) (k : Nat) (b : Bool) : Prop := k ≤ l.length ∧ LoA l x k ∧ HiA l x k ∧ (b = true ↔ ∃ y, l[k]? = some y ∧ cmpA y x = 0)

end Go.Proofs.Ytaakacahblndcaa

namespace Go.Proofs.Ytaakacahblndcaa
open Go.RowKit Go.Sort Go.Lib

section
variable {P : Program}
end

end Go.Proofs.Ytaakacahblndcaa

namespace Go.Proofs.Ytaakacahblndcaa
open Go.RowKit Go.Sort

theorem setCells_there {g : Nat} {t : TypeId} {fr : Nat × Nat} (vs : List Value) : ∀ {w : World} (o : Nat) {cur : Array Value}, w.heap[g]? = some (.cells cur t fr) → ∃ cur', (w.setCells g o vs).heap[g]? = some (.cells cur' t fr) ∧ cur'.size = cur.size := by
  induction vs with
  | nil => exact fun _ cur h => ⟨cur, h, rfl⟩
  | cons v r ih =>
    intro w o cur h
    obtain ⟨c, h1, h2⟩ := ih (w := w.setCell ⟨g, o, none⟩ v) (o + 1) (cur := cur.setIfInBounds o v) (by simp only [World.setCell, Array.getElem?_modify, if_true, h, Option.map_some]; simp)
    exact ⟨c, h1, by rw [h2]; simp⟩
section
variable {α : Type} {enc : α → List Value} {k : Nat}
/-- A row known by its cells. -/
theorem own_of_cells (hk : ∀ x, (enc x).length = k) {w : World} {base g n cap : Nat} {cur : Array Value} {e : TypeId} {xs : List α} (hb : base ≤ g) (hh : w.heap[g]? = some (.cells cur e (0, 0))) (hx : xs.length = n) (hn : n ≤ cap) (hcm : cap ≤ maxLen) (hcs : cur.size = cap * k)
    (hc : ∀ j v, (flatL enc xs)[j]? = some v → w.cell? ⟨g, j, none⟩ = some v) : OwnE enc k e w base (some ⟨g, 0, none⟩) cap xs := by
  refine ⟨flatL_len hk xs, .inr ⟨g, cap, cur, rfl, hb, hh, by omega, hcm, hcs, ?_⟩⟩
  have hle : xs.length * k ≤ cap * k := Nat.mul_le_mul_right _ (by omega)
  have hl := flatL_len hk xs
  apply List.ext_getElem?
  intro j
  rw [List.getElem?_take]
  by_cases hj : j < xs.length * k
  · have h0 := List.getElem?_eq_getElem (l := flatL enc xs) (i := j) (by rw [hl]; exact hj)
    have := hc j _ h0
    rw [cell_of_row _ _ _ _ _ _ hh] at this
    rw [if_pos hj, Array.getElem?_toList, h0]; exact this
  · rw [if_neg hj, List.getElem?_eq_none (by omega)]
end

end Go.Proofs.Ytaakacahblndcaa

namespace Go.Proofs.Ytaakacahblndcaa
open Go.RowKit Go.Sort
theorem rowBuild_stv (n : Nat) (ps : Array (Nat × Value)) : Instr.buildSlice 27 n ps = rowBuild 27 n ps := rfl
attribute [local go_sem ↓] rowLoad_stv rowStore_stv rowBuild_stv

theorem stV_lit (w : World) (x : St × Sv × Sv) : (rowBuild 27 1 #[(0, stV x)]).run Try.prog w = .ok (.slice (some ⟨w.heap.size, 0, none⟩) 1 1) (w.alloc (.cells (stV x).cells 33)) :=
  run_rowBuild w 27 33 (stV x).cells 13 160 _ Try.underlying27 Try.infoSt (by decide) (by decide) rfl
/-- What Put makes of a row. -/
def putA (l : List St) (x : St) (k : Nat) (b : Bool) : List St := if b then l else l.take k ++ [x] ++ l.drop k

end Go.Proofs.Ytaakacahblndcaa

namespace Go.Proofs.Ytaakacahblndcaa
open Go.RowKit Go.Sort
attribute [local go_sem ↓] rowLoad_stv rowStore_stv rowBuild_stv rowLoad_lkv rowStore_lkv

/-- No other link has the number of the one at a place. -/
def aloneL (ls : List St) (k : Nat) (x : St) : Bool := decide (k + 1 = ls.length) || (match ls[k + 1]? with
  | none => true
  | some z => z.number != x.number)
/-- The link follows the one ahead, which is no resignation. -/
def behindL (ls : List St) (x : St) : Nat → Bool
  | 0 => true
  | j + 1 => match ls[j]? with
    | none => true
    | some y => followsL y x && y.kind != 3
/-- The link at a place counts where those ahead of it do. -/
def countsAt (ls : List St) (k : Nat) : Bool := match ls[k]? with
  | none => false
  | some x => aloneL ls k x && decide (x.number = (k : Int)) && behindL ls x k
/-- How many links count. -/
def countN (ls : List St) : Nat := ((List.range ls.length).takeWhile fun k => countsAt ls k).length
theorem takeWhile_len (p : Nat → Bool) : ∀ (n k : Nat), (∀ j, j < k → p j = true) → (k = n ∨ (k < n ∧ p k = false)) → ((List.range n).takeWhile p).length = k := by
  intro n k h1 h2
  have hk : k ≤ n := by omega
  have e : List.range n = List.range k ++ (List.range (n - k)).map (k + ·) := by
    rw [← List.range_add]; congr 1; omega
  rw [e, List.takeWhile_append_of_pos (fun x hx => h1 x (List.mem_range.1 hx)), List.length_append, List.length_range]
  rcases h2 with rfl | ⟨h3, h4⟩
  · simp
  · obtain ⟨m, hm⟩ : ∃ m, n - k = m + 1 := ⟨n - k - 1, by omega⟩
    rw [hm, List.range_succ_eq_map, List.map_cons, List.takeWhile_cons]
    simp [h4]
theorem countN_at {ls : List St} {k : Nat} (h1 : ∀ j, j < k → countsAt ls j = true) (hk : k < ls.length) (h2 : countsAt ls k = false) : countN ls = k := takeWhile_len _ _ _ h1 (.inr ⟨hk, h2⟩)
theorem countN_end {ls : List St} (h1 : ∀ j, j < ls.length → countsAt ls j = true) : countN ls = ls.length := takeWhile_len _ _ _ h1 (.inl rfl)
theorem countsAt_eq {ls : List St} {k : Nat} {x : St} (h : ls[k]? = some x) : countsAt ls k = (aloneL ls k x && decide (x.number = (k : Int)) && behindL ls x k) := by
  simp only [countsAt, h]
theorem behindL_succ {ls : List St} {x y : St} {j : Nat} (h : ls[j]? = some y) : behindL ls x (j + 1) = (followsL y x && y.kind != 3) := by simp only [behindL, h]
theorem aloneL_last {ls : List St} {x : St} {k : Nat} (h : k + 1 = ls.length) : aloneL ls k x = true := by simp [aloneL, h]
theorem aloneL_next {ls : List St} {x z : St} {k : Nat} (h : k + 1 < ls.length) (hz : ls[k + 1]? = some z) : aloneL ls k x = (z.number != x.number) := by
  simp only [aloneL, hz]
  rw [decide_eq_false (by omega), Bool.false_or]
theorem take_snocS {ls : List St} {k : Nat} {x : St} (h : ls[k]? = some x) : ls.take (k + 1) = ls.take k ++ [x] := by
  rw [List.take_add_one, h]; rfl
theorem counts_succ {ls : List St} {k : Nat} (h : ∀ j, j < k → countsAt ls j = true) (hk : countsAt ls k = true) : ∀ j, j < k + 1 → countsAt ls j = true := fun j hj => by
  by_cases e : j = k
  · rw [e]; exact hk
  · exact h j (by omega)
theorem numB_le {s : St} (h : checkI s = 0) : 0 ≤ s.number ∧ s.number ≤ 200 := by
  have := (checkI_right h).num
  simp only [numB, Bool.and_eq_true] at this
  have := inB_iff.1 this.1.1.1.1.1
  omega

set_option maxHeartbeats 8000000 in
set_option maxRecDepth 100000 in
theorem countedP_any {P : Nat → Prop} (a : Int) (v : Value) (l : List St) (w : World) (hv : Sl stRep P w v l) (hm : l.length ≤ 100000) (hL : LightL 9223372036854775807 l) :
    Calls Try.prog 11 #[.int .i64 a, v] w fun e w' => ∃ ls ro n rc, LinksR a l ls ∧ e = .returned (.slice ro n rc) ∧ n = countN ls ∧ OwnS w' w.heap.size ro rc (ls.take (countN ls)) ∧ Ex w.heap.size none w w' := by
  have HV := Lib.hid hv
  have HLL := Lib.hid hL
  clear hv hL
  go_enter Try.func11, Try.ntmps11
  go_wp2_with (first
    | (go_at_call 23
       refine (links_any v l a w HV.out hm HLL.out).mono ?_
       rintro e w1 ⟨u, ls, rfl, hls, hsl, hln, hex⟩
       obtain ⟨ao, cap, rfl, hsl⟩ := hsl
       obtain ⟨m, hm0⟩ : ∃ m, m = ls.length := ⟨_, rfl⟩
       rw [← hm0]
       have HM := Lib.hid hm0.symm
       have HLS := Lib.hid hls
       have HSL : Hid (∀ w', Ex w1.heap.size none w1 w' → SlAt linkRep (fun b => P b ∨ w.heap.size ≤ b) w' ao ls) := Lib.hid (fun w' h => hsl.keep (by decide) fun b _ hb => h.block b hb (by simp))
       have HE1 := Lib.hid hex
       have hz1 : w.heap.size ≤ w1.heap.size := hex.size
       have hm5 : m ≤ 100000 := by omega
       clear hls hsl hex hm0 hln)
    | fail)
  go_loopw [6, 15] (fun v i wr => ∃ (k : Nat) (ro : Option Addr) (rc : Nat) (acc : List St), k ≤ m ∧ i = .int .i64 k ∧ v = .slice ro k rc ∧ Hid (acc = ls.take k ∧ acc.length = k ∧ ∀ j, j < k → countsAt ls j = true) ∧ Hid (OwnS wr w1.heap.size ro rc acc) ∧ Ex w1.heap.size none w1 wr) (fun _ i _ => m - (intOf i).toNat)
  case atStart => exact ⟨0, none, 0, [], by omega, rfl, rfl, Lib.hid ⟨by simp, rfl, fun j hj => by omega⟩, Lib.hid (OwnS.nil _ _), Ex.refl _ _ _⟩
  case round =>
    obtain ⟨k, ro, rc, acc, hk, rfl, rfl, HA, HO, hex0⟩ := hrel
    have hsz0 := hex0.size
    have HE0 := Lib.hid hex0
    have HEX : Hid (Ex w.heap.size none w wr) := Lib.hid (HE1.out.trans hex0 hz1 (by simp))
    have hsz : w.heap.size ≤ wr.heap.size := by omega
    clear hex0
    by_cases hlt : k < m
    · have hltI : (k : Int) < (m : Int) := by omega
      obtain ⟨b, off, x, hao, _, hbl, HXs, hlx, HR⟩ := lkv_get (HSL.out wr HE0.out) k (by rw [HM.out]; exact hlt)
      subst hao
      have HOK := Lib.hid (okB_iff.1 (LinksR.ok HLS.out x.1 (List.mem_of_getElem? HXs.out)))
      have HNX := Lib.hid (numB_le HOK.out.2.1)
      have HTX := Lib.hid (checkI_tame HOK.out.2.1)
      have HLX := Lib.hid hlx
      have hld := linkV_load HR.out
      have hnew := linkV_new wr #[.int .i64 0, .int .i64 0, .string ⟨#[]⟩, .int .i64 0, .int .i64 0, .int .i64 0, .int .i64 0, .int .i64 0, .slice none 0 0, .slice none 0 0, .string ⟨#[]⟩, .int .i64 0, .string ⟨#[]⟩, .string ⟨#[]⟩] x rfl
      clear hlx
      go_upto_region 6 with (fail)
      refine wp_world (fun W => W = wr.alloc (.cells (linkV x).cells 56)) rfl (fun ws hws => ?_)
      have HEs : Hid (Ex wr.heap.size none wr ws) := Lib.hid (by rw [hws]; exact Ex.new wr _)
      have hzs : ws.heap.size = wr.heap.size + 1 := by rw [hws]; simp
      have HBs : Hid (ws.heap[wr.heap.size]? = some (.cells (linkV x).cells 56 (0, 0))) := Lib.hid (by rw [hws]; exact heap_alloc_new wr _)
      have HQ : Hid (∀ w', Ex ws.heap.size none ws w' → ((rowLoad 56 ⟨wr.heap.size, 0, none⟩).run Try.prog w' = .ok (linkV x) w' ∧ (rowLoad 33 ⟨wr.heap.size, 0, none⟩).run Try.prog w' = .ok (stV x) w') ∧ w'.cell? ⟨wr.heap.size, 1, none⟩ = some (.int .i64 x.1.number)) := Lib.hid (fun w' h => by
        have hb := (h.block wr.heap.size (by omega) (by simp)).trans HBs.out
        exact ⟨⟨linkV_box hb, linkV_st hb⟩, (linkV_cells5 hb).2.1⟩)
      have HLW : Hid (∀ w', Ex ws.heap.size none ws w' → Lies (fun b => P b ∨ w.heap.size ≤ b) w' x) := Lib.hid (fun w' h => HLX.out.keep fun b _ hb => (h.block b (by omega) (by simp)).trans (HEs.out.block b (by omega) (by simp)))
      clear hld hnew hws
      obtain ⟨al, hal⟩ : ∃ al, al = aloneL ls k x.1 := ⟨_, rfl⟩
      have HAL := Lib.hid hal
      clear hal
      go_cut [9] from 20 to 38 (fun u wx => u = .bool al ∧ Ex ws.heap.size none ws wx)
      case first =>
        by_cases t1 : k + 1 = m
        · have k1 : ((k : Int) + 1 == (m : Int)) = true := by simp; omega
          have hq := fun p0 : ExW ws => HQ.out p0.w' p0.ex
          refine wp_region_quiet_ex (by kernel_rfl) (by kernel_rfl) ?_
          repeat (go_big_quiet_step (fail))
          refine wpQuiet_nil ?_
          intro _ hw'
          obtain ⟨p9, hw''⟩ := hw'
          subst hw''
          have HE9 : Hid (Ex ws.heap.size none ws p9.w') := Lib.hid p9.ex
          clear hq
          go_wp2_with (fail)
          go_meet
          exact ⟨by rw [HAL.out, aloneL_last (by rw [HM.out]; exact t1)], HE9.out⟩
        · have k1 : ((k : Int) + 1 == (m : Int)) = false := by simp; omega
          have hk1 : (k : Int) + 1 < (m : Int) := by omega
          obtain ⟨b', off', z, hao', _, _, HZs, _, HRz⟩ := lkv_get (HSL.out wr HE0.out) (k + 1) (by rw [HM.out]; omega)
          cases hao'
          have HCz : Hid (∀ w', Ex ws.heap.size none ws w' → w'.cell? ⟨b, off + (k + 1) * 14 + 1, none⟩ = some (.int .i64 z.1.number)) := Lib.hid (fun w' h => (rangeAt_keep HRz.out ((h.block b (by omega) (by simp)).trans (HEs.out.block b (by omega) (by simp)))) 1 _ rfl)
          have hq := fun p0 : ExW ws => And.intro (HQ.out p0.w' p0.ex) (HCz.out p0.w' p0.ex)
          refine wp_region_quiet_ex (by kernel_rfl) (by kernel_rfl) ?_
          repeat (go_big_quiet_step (fail))
          refine wpQuiet_nil ?_
          intro _ hw'
          obtain ⟨p9, hw''⟩ := hw'
          subst hw''
          have HE9 : Hid (Ex ws.heap.size none ws p9.w') := Lib.hid p9.ex
          clear hq
          go_wp2_with (fail)
          go_meet
          exact ⟨by rw [HAL.out, aloneL_next (by rw [HM.out]; omega) HZs.out], HE9.out⟩
      case rest =>
        rename World => w6
        obtain ⟨rfl, hex6⟩ := hcut
        have HX6 : Hid (Ex ws.heap.size none ws w6) := Lib.hid hex6
        have hz6 : ws.heap.size ≤ w6.heap.size := hex6.size
        clear hex6
        go_upto_region 7 with (fail)
        have HQ6 : Hid (∀ w', Ex w6.heap.size none w6 w' → ((rowLoad 56 ⟨wr.heap.size, 0, none⟩).run Try.prog w' = .ok (linkV x) w' ∧ (rowLoad 33 ⟨wr.heap.size, 0, none⟩).run Try.prog w' = .ok (stV x) w') ∧ w'.cell? ⟨wr.heap.size, 1, none⟩ = some (.int .i64 x.1.number)) := Lib.hid (fun w' h => HQ.out w' (HX6.out.trans h hz6 (by simp)))
        cases al with
        | false =>
          have HNO : Hid (countN ls = k) := Lib.hid (countN_at HA.out.2.2 (by rw [HM.out]; exact hlt) (by rw [countsAt_eq HXs.out, ← HAL.out]; rfl))
          have hq := fun p0 : ExW w6 => HQ6.out p0.w' p0.ex
          refine wp_region_quiet_ex (by kernel_rfl) (by kernel_rfl) ?_
          repeat (go_big_quiet_step (fail))
          refine wpQuiet_nil ?_
          intro _ hw'
          obtain ⟨p9, hw''⟩ := hw'
          subst hw''
          have HE9 : Hid (Ex w6.heap.size none w6 p9.w') := Lib.hid p9.ex
          clear hq
          go_wp2
          go_ret
          exact ⟨ls, ro, k, rc, HLS.out, rfl, HNO.out.symm, by rw [HNO.out, ← HA.out.1]; exact (HO.out.keep ((HEs.out.trans HX6.out (by omega) (by simp)).trans HE9.out (by omega) (by simp)) (Nat.le_refl _)).lower hz1, (HEX.out.trans (HEs.out.trans HX6.out (by omega) (by simp)) hsz (by simp)).trans HE9.out (by omega) (by simp)⟩
        | true =>
          by_cases t2 : x.1.number = (k : Int)
          case neg =>
            have k2 : (x.1.number == (k : Int)) = false := by simpa using t2
            have k2b : (x.1.number != (k : Int)) = true := by simpa using t2
            have HNO : Hid (countN ls = k) := Lib.hid (countN_at HA.out.2.2 (by rw [HM.out]; exact hlt) (by rw [countsAt_eq HXs.out, decide_eq_false t2, Bool.and_false, Bool.false_and]))
            clear t2
            have hq := fun p0 : ExW w6 => HQ6.out p0.w' p0.ex
            refine wp_region_quiet_ex (by kernel_rfl) (by kernel_rfl) ?_
            repeat (go_big_quiet_step (fail))
            refine wpQuiet_nil ?_
            intro _ hw'
            obtain ⟨p9, hw''⟩ := hw'
            subst hw''
            have HE9 : Hid (Ex w6.heap.size none w6 p9.w') := Lib.hid p9.ex
            clear hq
            go_wp2
            go_ret
            exact ⟨ls, ro, k, rc, HLS.out, rfl, HNO.out.symm, by rw [HNO.out, ← HA.out.1]; exact (HO.out.keep ((HEs.out.trans HX6.out (by omega) (by simp)).trans HE9.out (by omega) (by simp)) (Nat.le_refl _)).lower hz1, (HEX.out.trans (HEs.out.trans HX6.out (by omega) (by simp)) hsz (by simp)).trans HE9.out (by omega) (by simp)⟩
          have k2 : (x.1.number == (k : Int)) = true := by simpa using t2
          have k2b : (x.1.number != (k : Int)) = false := by simpa using t2
          have HT2 := Lib.hid t2
          clear t2
          by_cases t3 : 0 < k
          case neg =>
            have k3 : decide (0 < (k : Int)) = false := decide_eq_false (by omega)
            have k4 : decide (0 < k) = false := decide_eq_false (by omega)
            have HYES : Hid (countsAt ls k = true) := Lib.hid (by
              obtain rfl : k = 0 := by omega
              rw [countsAt_eq HXs.out, ← HAL.out, decide_eq_true HT2.out]; rfl)
            clear t3
            have hq := fun p0 : ExW w6 => HQ6.out p0.w' p0.ex
            refine wp_region_quiet_ex (by kernel_rfl) (by kernel_rfl) ?_
            repeat (go_big_quiet_step (fail))
            refine wpQuiet_nil ?_
            intro _ hw'
            obtain ⟨p9, hw''⟩ := hw'
            subst hw''
            have HE9 : Hid (Ex w6.heap.size none w6 p9.w') := Lib.hid p9.ex
            clear hq
            generalize p9.w' = w7 at HE9 ⊢
            have hz7 : w6.heap.size ≤ w7.heap.size := HE9.out.size
            obtain ⟨⟨r1, r2⟩, r3⟩ := HQ6.out _ HE9.out
            go_wp2_with (first
              | (go_at_call 17
                 refine (copied_v x w7 (HLW.out _ (HX6.out.trans HE9.out hz6 (by simp))) (by have h1 := HTX.out.list; have h2 := HTX.out.pins; omega)).mono ?_
                 rintro e w8 ⟨y, rfl, hyx, hly, hex⟩
                 have HY : Hid (y.1 = x.1 ∧ Lies (fun b => w7.heap.size ≤ b) w8 y ∧ Ex w7.heap.size none w7 w8) := Lib.hid ⟨hyx, hly, hex⟩
                 have hz8 : w7.heap.size ≤ w8.heap.size := hex.size
                 have hlit := stV_lit w8 y
                 clear hyx hly hex)
              | (at_builtin; refine wpList_appT rfl (.tmp 71) (.tmp 75) _ (by rfl) Try.underlying27 Try.infoSt w1.heap.size w1.heap.size ro rc (k) acc HA.out.2.1 (by rfl) (some ⟨w8.heap.size, 0, none⟩) 1 1 (by rfl) [y] rfl (HO.out.t.keep (((HEs.out.trans HX6.out (by omega) (by simp)).trans (HE9.out.trans HY.out.2.2 hz7 (by simp)) (by omega) (by simp)).trans (Ex.new w8 _) (by omega) (by simp)) (Nat.le_refl _)) (lit_cells (by rfl)) (fun z hz => by
                   rw [List.mem_singleton.1 hz]
                   exact (HY.out.2.1.keep fun b _ hb => (Ex.new w8 _).block b hb (by simp)).mono fun b hb _ => ⟨by omega, fun e => by have := HO.out.t.row b e; omega⟩) (by omega) (by simp; omega) (k + 1) rfl ?_; intro ao2 cap2 w9 ho he hb hr)
              | fail)
            have H9 : Hid (OwnT w9 w1.heap.size w1.heap.size ao2 cap2 (acc ++ [x.1]) ∧ Ex w1.heap.size none w1 w9) := Lib.hid ⟨by have h := ho; rw [List.map_cons, List.map_nil, HY.out.1] at h; exact h, (HE0.out.trans (((HEs.out.trans HX6.out (by omega) (by simp)).trans (HE9.out.trans HY.out.2.2 hz7 (by simp)) (by omega) (by simp)).trans (Ex.new w8 _) (by omega) (by simp)) hsz0 (by simp)).trans he (Nat.le_refl _) (by simp)⟩
            clear ho he hb hr
            go_roundw
            case rel => exact ⟨k + 1, ao2, cap2, acc ++ [x.1], by omega, by go_num, rfl, Lib.hid ⟨by rw [HA.out.1, take_snocS HXs.out], by rw [List.length_append, HA.out.2.1]; rfl, counts_succ HA.out.2.2 HYES.out⟩, Lib.hid (H9.out.1.s (Nat.le_refl _)), H9.out.2⟩
            case measure => simp [intOf] <;> omega
          have k3 : decide (0 < (k : Int)) = true := decide_eq_true (by omega)
          have k4 : decide (0 < k) = true := decide_eq_true (by omega)
          obtain ⟨j, rfl⟩ : ∃ j, k = j + 1 := ⟨k - 1, by omega⟩
          have i1 : ((j + 1 : Nat) : Int) - 1 = (j : Int) := by omega
          have i1b : (j : Int) + 1 - 1 = (j : Int) := by omega
          have k3b : decide (0 < (j : Int) + 1) = true := decide_eq_true (by omega)
          have k2c : (x.1.number == (j : Int) + 1) = true := by have := HT2.out; simpa using this
          have k2d : (x.1.number != (j : Int) + 1) = false := by have := HT2.out; simpa using this
          have i2 : (j : Int) < (m : Int) := by omega
          obtain ⟨b', off', y, hao', _, _, HYs, _, HRy⟩ := lkv_get (HSL.out wr HE0.out) j (by rw [HM.out]; omega)
          cases hao'
          have HBy : Hid (∀ w', Ex w6.heap.size none w6 w' → w'.heap[b]? = wr.heap[b]?) := Lib.hid (fun w' h => (h.block b (by omega) (by simp)).trans ((HX6.out.block b (by omega) (by simp)).trans (HEs.out.block b (by omega) (by simp))))
          have HQy : Hid (∀ w', Ex w6.heap.size none w6 w' → (rowLoad 56 ⟨b, off + j * 14, none⟩).run Try.prog w' = .ok (linkV y) w' ∧ w'.cell? ⟨b, off + j * 14 + 4, none⟩ = some (.int .i64 y.1.kind)) := Lib.hid (fun w' h => ⟨linkV_load (rangeAt_keep HRy.out (HBy.out w' h)), (rangeAt_keep HRy.out (HBy.out w' h)) 4 _ rfl⟩)
          have HOy := Lib.hid (okB_iff.1 (LinksR.ok HLS.out y.1 (List.mem_of_getElem? HYs.out)))
          have HNy := Lib.hid (numB_le HOy.out.2.1)
          obtain ⟨fw, hfw⟩ : ∃ fw, fw = followsL y.1 x.1 := ⟨_, rfl⟩
          have HFW := Lib.hid hfw
          have HCF : Hid (∀ w', Calls Try.prog 24 #[linkV y, linkV x] w' fun e w'' => e = .returned (.bool fw) ∧ Ex w'.heap.size none w' w'') := Lib.hid (fun w' => by rw [hfw]; exact follows_v y x w' (by have := HNy.out; omega) (by have := HNX.out; omega))
          clear hfw
          cases fw with
          | false =>
            have HNO : Hid (countN ls = j + 1) := Lib.hid (countN_at HA.out.2.2 (by rw [HM.out]; exact hlt) (by rw [countsAt_eq HXs.out, behindL_succ HYs.out, ← HFW.out, Bool.false_and, Bool.and_false]))
            have hq := fun p0 : ExW w6 => And.intro (HQ6.out p0.w' p0.ex) (HQy.out p0.w' p0.ex)
            refine wp_region_quiet_ex (by kernel_rfl) (by kernel_rfl) ?_
            repeat (go_big_quiet_step ((go_at_call 24; refine calls_ex_of (HCF.out _))))
            refine wpQuiet_nil ?_
            intro _ hw'
            obtain ⟨p9, hw''⟩ := hw'
            subst hw''
            have HE9 : Hid (Ex w6.heap.size none w6 p9.w') := Lib.hid p9.ex
            clear hq
            go_wp2
            go_ret
            exact ⟨ls, ro, (j + 1), rc, HLS.out, rfl, HNO.out.symm, by rw [HNO.out, ← HA.out.1]; exact (HO.out.keep ((HEs.out.trans HX6.out (by omega) (by simp)).trans HE9.out (by omega) (by simp)) (Nat.le_refl _)).lower hz1, (HEX.out.trans (HEs.out.trans HX6.out (by omega) (by simp)) hsz (by simp)).trans HE9.out (by omega) (by simp)⟩
          | true =>
            by_cases t4 : y.1.kind = 3
            case pos =>
              have k5 : (y.1.kind == 3) = true := by simpa using t4
              have HNO : Hid (countN ls = j + 1) := Lib.hid (countN_at HA.out.2.2 (by rw [HM.out]; exact hlt) (by rw [countsAt_eq HXs.out, behindL_succ HYs.out, t4]; simp))
              clear t4
              have hq := fun p0 : ExW w6 => And.intro (HQ6.out p0.w' p0.ex) (HQy.out p0.w' p0.ex)
              refine wp_region_quiet_ex (by kernel_rfl) (by kernel_rfl) ?_
              repeat (go_big_quiet_step ((go_at_call 24; refine calls_ex_of (HCF.out _))))
              refine wpQuiet_nil ?_
              intro _ hw'
              obtain ⟨p9, hw''⟩ := hw'
              subst hw''
              have HE9 : Hid (Ex w6.heap.size none w6 p9.w') := Lib.hid p9.ex
              clear hq
              go_wp2
              go_ret
              exact ⟨ls, ro, (j + 1), rc, HLS.out, rfl, HNO.out.symm, by rw [HNO.out, ← HA.out.1]; exact (HO.out.keep ((HEs.out.trans HX6.out (by omega) (by simp)).trans HE9.out (by omega) (by simp)) (Nat.le_refl _)).lower hz1, (HEX.out.trans (HEs.out.trans HX6.out (by omega) (by simp)) hsz (by simp)).trans HE9.out (by omega) (by simp)⟩
            have k5 : (y.1.kind == 3) = false := by simpa using t4
            have HYES : Hid (countsAt ls (j + 1) = true) := Lib.hid (by
              have k6 : (y.1.kind != 3) = true := by simpa using t4
              rw [countsAt_eq HXs.out, ← HAL.out, decide_eq_true HT2.out, behindL_succ HYs.out, ← HFW.out, k6]; rfl)
            clear t4
            have hq := fun p0 : ExW w6 => And.intro (HQ6.out p0.w' p0.ex) (HQy.out p0.w' p0.ex)
            refine wp_region_quiet_ex (by kernel_rfl) (by kernel_rfl) ?_
            repeat (go_big_quiet_step ((go_at_call 24; refine calls_ex_of (HCF.out _))))
            refine wpQuiet_nil ?_
            intro _ hw'
            obtain ⟨p9, hw''⟩ := hw'
            subst hw''
            have HE9 : Hid (Ex w6.heap.size none w6 p9.w') := Lib.hid p9.ex
            clear hq
            generalize p9.w' = w7 at HE9 ⊢
            have hz7 : w6.heap.size ≤ w7.heap.size := HE9.out.size
            obtain ⟨⟨r1, r2⟩, r3⟩ := HQ6.out _ HE9.out
            go_wp2_with (first
              | (go_at_call 17
                 refine (copied_v x w7 (HLW.out _ (HX6.out.trans HE9.out hz6 (by simp))) (by have h1 := HTX.out.list; have h2 := HTX.out.pins; omega)).mono ?_
                 rintro e w8 ⟨y, rfl, hyx, hly, hex⟩
                 have HY : Hid (y.1 = x.1 ∧ Lies (fun b => w7.heap.size ≤ b) w8 y ∧ Ex w7.heap.size none w7 w8) := Lib.hid ⟨hyx, hly, hex⟩
                 have hz8 : w7.heap.size ≤ w8.heap.size := hex.size
                 have hlit := stV_lit w8 y
                 clear hyx hly hex)
              | (at_builtin; refine wpList_appT rfl (.tmp 71) (.tmp 75) _ (by rfl) Try.underlying27 Try.infoSt w1.heap.size w1.heap.size ro rc (j + 1) acc HA.out.2.1 (by rfl) (some ⟨w8.heap.size, 0, none⟩) 1 1 (by rfl) [y] rfl (HO.out.t.keep (((HEs.out.trans HX6.out (by omega) (by simp)).trans (HE9.out.trans HY.out.2.2 hz7 (by simp)) (by omega) (by simp)).trans (Ex.new w8 _) (by omega) (by simp)) (Nat.le_refl _)) (lit_cells (by rfl)) (fun z hz => by
                   rw [List.mem_singleton.1 hz]
                   exact (HY.out.2.1.keep fun b _ hb => (Ex.new w8 _).block b hb (by simp)).mono fun b hb _ => ⟨by omega, fun e => by have := HO.out.t.row b e; omega⟩) (by omega) (by simp; omega) (j + 1 + 1) rfl ?_; intro ao2 cap2 w9 ho he hb hr)
              | fail)
            have H9 : Hid (OwnT w9 w1.heap.size w1.heap.size ao2 cap2 (acc ++ [x.1]) ∧ Ex w1.heap.size none w1 w9) := Lib.hid ⟨by have h := ho; rw [List.map_cons, List.map_nil, HY.out.1] at h; exact h, (HE0.out.trans (((HEs.out.trans HX6.out (by omega) (by simp)).trans (HE9.out.trans HY.out.2.2 hz7 (by simp)) (by omega) (by simp)).trans (Ex.new w8 _) (by omega) (by simp)) hsz0 (by simp)).trans he (Nat.le_refl _) (by simp)⟩
            clear ho he hb hr
            go_roundw
            case rel => exact ⟨j + 1 + 1, ao2, cap2, acc ++ [x.1], by omega, by go_num, rfl, Lib.hid ⟨by rw [HA.out.1, take_snocS HXs.out], by rw [List.length_append, HA.out.2.1]; rfl, counts_succ HA.out.2.2 HYES.out⟩, Lib.hid (H9.out.1.s (Nat.le_refl _)), H9.out.2⟩
            case measure => simp [intOf] <;> omega
    · obtain rfl : k = m := by omega
      have HNO : Hid (countN ls = k) := Lib.hid (by rw [countN_end (fun j hj => HA.out.2.2 j (by rw [HM.out] at hj; exact hj)), HM.out])
      go_wp2
      go_ret
      exact ⟨ls, ro, k, rc, HLS.out, rfl, HNO.out.symm, by rw [HNO.out, ← HA.out.1]; exact HO.out.lower hz1, HEX.out⟩
end Go.Proofs.Ytaakacahblndcaa

namespace Go.Proofs.Ytaakacahblndcaa
open Go.RowKit Go.Sort

/-- A row with one statement for each number, no two neighbours with one digest. -/
structure NumL (a : Int) (l : List St) : Prop where
  ok : ∀ s ∈ l, okB a s = true
  num : ∀ (k : Nat) (s : St), l[k]? = some s → s.number = (k : Int)
  dist : ∀ (k : Nat) (s t : St), l[k]? = some s → l[k + 1]? = some t → s.dig ≠ t.dig
/-- Each follows the one before; only the last one may be a resignation. -/
structure FolL (l : List St) : Prop where
  fol : ∀ (k : Nat) (s t : St), l[k]? = some s → l[k + 1]? = some t → followsL s t = true
  kind : ∀ (k : Nat) (s : St), l[k]? = some s → k + 1 < l.length → s.kind ≠ 3
theorem NumL.nil (a : Int) : NumL a [] := ⟨by simp, by simp, by simp⟩
theorem FolL.nil : FolL [] := ⟨by simp, by simp⟩
theorem snoc_get {l : List St} {x s : St} {k : Nat} (h : (l ++ [x])[k]? = some s) : (k < l.length ∧ l[k]? = some s) ∨ (k = l.length ∧ s = x) := by
  by_cases hk : k < l.length
  · rw [List.getElem?_append_left hk] at h; exact .inl ⟨hk, h⟩
  · rw [List.getElem?_append_right (by omega)] at h
    have h0 : k - l.length < 1 := by have := (List.getElem?_eq_some_iff.1 h).1; simpa using this
    have e : k = l.length := by omega
    subst e
    rw [Nat.sub_self] at h
    exact .inr ⟨rfl, (Option.some.inj h).symm⟩
/-- One more, with the next number. -/
theorem NumL.snoc {a : Int} {l : List St} {x : St} (h : NumL a l) (hx : okB a x = true) (hn : x.number = (l.length : Int)) (hd : ∀ s, l.getLast? = some s → s.dig ≠ x.dig) : NumL a (l ++ [x]) := by
  refine ⟨fun s hs => ?_, fun k s hs => ?_, fun k s t hs ht => ?_⟩
  · rcases List.mem_append.1 hs with hs | hs
    · exact h.ok s hs
    · rw [List.mem_singleton.1 hs]; exact hx
  · rcases snoc_get hs with ⟨_, hs⟩ | ⟨rfl, rfl⟩
    · exact h.num k s hs
    · exact hn
  · rcases snoc_get ht with ⟨hk, ht⟩ | ⟨hk, rfl⟩
    · rcases snoc_get hs with ⟨_, hs⟩ | ⟨hk2, _⟩
      · exact h.dist k s t hs ht
      · omega
    · rcases snoc_get hs with ⟨_, hs⟩ | ⟨hk2, _⟩
      · refine hd s ?_
        rw [List.getLast?_eq_getElem?, show l.length - 1 = k by omega]
        exact hs
      · omega
theorem FolL.snoc {l : List St} {x : St} (h : FolL l) (hf : ∀ s, l.getLast? = some s → followsL s x = true ∧ s.kind ≠ 3) : FolL (l ++ [x]) := by
  have hl : ∀ k s, l[k]? = some s → k + 1 = l.length → l.getLast? = some s := fun k s hs hk => by
    rw [List.getLast?_eq_getElem?, show l.length - 1 = k by omega]
    exact hs
  refine ⟨fun k s t hs ht => ?_, fun k s hs hk => ?_⟩
  · rcases snoc_get ht with ⟨hk, ht⟩ | ⟨hk, rfl⟩
    · rcases snoc_get hs with ⟨_, hs⟩ | ⟨hk2, _⟩
      · exact h.fol k s t hs ht
      · omega
    · rcases snoc_get hs with ⟨_, hs⟩ | ⟨hk2, _⟩
      · exact (hf s (hl k s hs hk)).1
      · omega
  · rcases snoc_get hs with ⟨hk1, hs⟩ | ⟨hk2, _⟩
    · by_cases hk2 : k + 1 < l.length
      · exact h.kind k s hs hk2
      · exact (hf s (hl k s hs (by omega))).2
    · rw [List.length_append] at hk; simp at hk; omega
/-- Where the numbers are the places, the row is what is sorted. -/
theorem sorted_num {a : Int} {l d : List St} (ok : ∀ s ∈ l, okB a s = true) (num : ∀ (k : Nat) (s : St), l[k]? = some s → s.number = (k : Int)) (hp : d.Perm (l.filter (okB a)))
    (hsd : ∀ (i j : Nat) (x y : St), i < j → d[i]? = some x → d[j]? = some y → ltNDs y x = false) : d = l := by
  rw [List.filter_eq_self.2 ok] at hp
  refine List.Perm.eq_of_pairwise (le := fun x y => ltNDs y x = false) (fun x y hx hy h1 h2 => ?_) ?_ ?_ hp
  · obtain ⟨i, hi⟩ := List.mem_iff_getElem?.1 (hp.subset hx)
    obtain ⟨j, hj⟩ := List.mem_iff_getElem?.1 hy
    have e1 := num i x hi
    have e2 := num j y hj
    unfold ltNDs at h1 h2
    simp only [Bool.or_eq_false_iff, decide_eq_false_iff_not] at h1 h2
    have : i = j := by omega
    subst this
    rw [hi] at hj
    exact Option.some.inj hj
  · rw [List.pairwise_iff_getElem]
    intro i j hi hj hij
    exact hsd i j _ _ hij (List.getElem?_eq_getElem hi) (List.getElem?_eq_getElem hj)
  · rw [List.pairwise_iff_getElem]
    intro i j hi hj hij
    have e1 := num i _ (List.getElem?_eq_getElem hi)
    have e2 := num j _ (List.getElem?_eq_getElem hj)
    unfold ltNDs
    simp only [Bool.or_eq_false_iff, decide_eq_false_iff_not, Bool.and_eq_false_iff]
    exact ⟨by omega, .inl (by omega)⟩
theorem stays_dist {d : List St} {j : Nat} (hj : j < d.length) (hd : ∀ s t, d[j - 1]? = some s → d[j]? = some t → 0 < j → s.dig ≠ t.dig) : stays sameDigS d.toArray j = true := by
  by_cases h0 : j = 0
  · subst h0; rfl
  · have hj' : j - 1 < d.length := by omega
    refine stays_of (by omega) false ?_
    rw [getElem!_pos d.toArray j (by simpa using hj), getElem!_pos d.toArray (j - 1) (by simpa using hj')]
    simp only [List.getElem_toArray]
    unfold sameDigS
    rw [toListB]
    exact decide_eq_false fun e => hd _ _ (List.getElem?_eq_getElem hj') (List.getElem?_eq_getElem hj) (by omega) e.symm
theorem NumL.cpt {a : Int} {l : List St} (h : NumL a l) : cptL l = l := by
  unfold cptL
  rw [cpt_all (fun j hj => stays_dist hj fun s t hs ht h0 => h.dist (j - 1) s t hs (by rw [show j - 1 + 1 = j by omega]; exact ht)) (by simp)]
  simp
theorem NumL.cpt_snoc {a : Int} {l : List St} (h : NumL a l) (x : St) : cptL (l ++ [x]) = l ∨ cptL (l ++ [x]) = l ++ [x] := by
  have h1 : Proofs.Ytaakacahblndcaa.cpt sameDigS (l ++ [x]).toArray l.length = l := by
    rw [cpt_all (fun j hj => stays_dist (by simp; omega) fun s t hs ht h0 => ?_) (by simp)]
    · simp
    · rw [List.getElem?_append_left (by omega)] at hs ht
      exact h.dist (j - 1) s t hs (by rw [show j - 1 + 1 = j by omega]; exact ht)
  unfold cptL
  rw [List.length_append, List.length_singleton]
  cases hs : stays sameDigS (l ++ [x]).toArray l.length with
  | false => rw [cpt_no hs, h1]; exact .inl rfl
  | true =>
    rw [cpt_yes hs, h1, getElem!_pos (l ++ [x]).toArray l.length (by simp)]
    simp
theorem NumL.links {a : Int} {l ls : List St} (h : NumL a l) (hl : LinksR a l ls) : ls = l := by
  obtain ⟨d, hp, hsd, rfl⟩ := hl
  rw [sorted_num h.ok h.num hp hsd, h.cpt]
theorem NumL.links_snoc {a : Int} {l ls : List St} {x : St} (h : NumL a l) (hx : okB a x = true) (hn : x.number = (l.length : Int)) (hl : LinksR a (l ++ [x]) ls) : ls = l ∨ ls = l ++ [x] := by
  obtain ⟨d, hp, hsd, rfl⟩ := hl
  rw [sorted_num (l := l ++ [x]) (fun s hs => ?_) (fun k s hs => ?_) hp hsd]
  · exact h.cpt_snoc x
  · rcases List.mem_append.1 hs with hs | hs
    · exact h.ok s hs
    · rw [List.mem_singleton.1 hs]; exact hx
  · rcases snoc_get hs with ⟨_, hs⟩ | ⟨rfl, rfl⟩
    · exact h.num k s hs
    · exact hn
theorem num_ne {j : Nat} {x z : St} (h1 : x.number = (j : Int)) (h2 : z.number = ((j + 1 : Nat) : Int)) : (z.number != x.number) = true := by
  rw [h1, h2]; simp; omega
/-- What counts in a row: all that follows, up to a place. -/
theorem counts_at {a : Int} {l : List St} (h : NumL a l) {k : Nat} {x : St} (hx : l[k]? = some x) : countsAt l k = behindL l x k := by
  have hk := (List.getElem?_eq_some_iff.1 hx).1
  have e1 : aloneL l k x = true := by
    by_cases h1 : k + 1 = l.length
    · exact aloneL_last h1
    · have hz := List.getElem?_eq_getElem (show k + 1 < l.length by omega)
      rw [aloneL_next (by omega) hz]
      exact num_ne (h.num k x hx) (h.num _ _ hz)
  rw [countsAt_eq hx, e1, decide_eq_true (h.num k x hx)]
  simp
theorem behind_fol {l : List St} (f : FolL l) {k : Nat} {x : St} (hx : l[k]? = some x) : behindL l x k = true := by
  cases k with
  | zero => rfl
  | succ j =>
    have hk := (List.getElem?_eq_some_iff.1 hx).1
    have hy := List.getElem?_eq_getElem (show j < l.length by omega)
    rw [behindL_succ hy, f.fol j _ _ hy hx]
    simpa using f.kind j _ hy (by omega)
theorem NumL.count {a : Int} {l : List St} (h : NumL a l) (f : FolL l) : countN l = l.length :=
  countN_end fun j hj => by
    have hx := List.getElem?_eq_getElem hj
    rw [counts_at h hx, behind_fol f hx]
/-- A last one that does not follow, or comes behind a resignation, does not count. -/
theorem count_snoc {a : Int} {l : List St} {x q : St} (h : NumL a l) (f : FolL l) (hx : okB a x = true) (hn : x.number = (l.length : Int)) (hq : l.getLast? = some q) (hb : followsL q x = false ∨ q.kind = 3) {ls : List St} (hl : LinksR a (l ++ [x]) ls) : countN ls = l.length := by
  by_cases hd : q.dig = x.dig
  · rcases h.links_snoc hx hn hl with rfl | e
    · exact h.count f
    · -- both could be: what stays is told by the digest
      exfalso
      obtain ⟨d, hp, hsd, rfl⟩ := hl
      rw [sorted_num (l := l ++ [x]) (fun s hs => by
        rcases List.mem_append.1 hs with hs | hs
        · exact h.ok s hs
        · rw [List.mem_singleton.1 hs]; exact hx) (fun k s hs => by
        rcases snoc_get hs with ⟨_, hs⟩ | ⟨rfl, rfl⟩
        · exact h.num k s hs
        · exact hn) hp hsd] at e
      have hl0 : 0 < l.length := by cases l with | nil => cases hq | cons _ _ => simp
      have hs : stays sameDigS (l ++ [x]).toArray l.length = false := by
        refine stays_of hl0 true ?_
        rw [getElem!_pos (l ++ [x]).toArray l.length (by simp), getElem!_pos (l ++ [x]).toArray (l.length - 1) (by simp; omega)]
        simp only [List.getElem_toArray]
        have e1 : (l ++ [x])[l.length]'(by simp) = x := by simp
        have e2 : (l ++ [x])[l.length - 1]'(by simp; omega) = q := by
          rw [List.getElem_append_left (by omega)]
          rw [List.getLast?_eq_getElem?, List.getElem?_eq_getElem (by omega)] at hq
          exact Option.some.inj hq
        rw [e1, e2]
        unfold sameDigS
        rw [toListB]
        exact decide_eq_true hd.symm
      have h2 := congrArg List.length e
      unfold cptL at h2
      rw [show (l ++ [x]).length = l.length + 1 by simp, cpt_no hs] at h2
      have := cpt_le sameDigS (l ++ [x]).toArray l.length
      omega
  · have hN : NumL a (l ++ [x]) := h.snoc hx hn fun s hs => by rw [hq] at hs; cases hs; exact hd
    rw [hN.links hl]
    have hl0 : 0 < l.length := by cases l with | nil => cases hq | cons _ _ => simp
    refine countN_at (fun j hj => ?_) (by simp) ?_
    · have hj1 : (l ++ [x])[j]? = l[j]? := List.getElem?_append_left hj
      have hy := List.getElem?_eq_getElem hj
      rw [counts_at hN (hj1.trans hy)]
      cases j with
      | zero => rfl
      | succ i =>
        have hz := List.getElem?_eq_getElem (show i < l.length by omega)
        rw [behindL_succ ((List.getElem?_append_left (by omega)).trans hz), f.fol i _ _ hz hy]
        simpa using f.kind i _ hz (by omega)
    · have hx1 : (l ++ [x])[l.length]? = some x := by simp
      rw [counts_at hN hx1]
      obtain ⟨i, hi⟩ : ∃ i, l.length = i + 1 := ⟨l.length - 1, by omega⟩
      have hq1 : (l ++ [x])[i]? = some q := by
        rw [List.getElem?_append_left (by omega)]
        rw [List.getLast?_eq_getElem?, hi] at hq
        exact hq
      rw [hi, behindL_succ hq1]
      rcases hb with hb | hb
      · rw [hb]; rfl
      · rw [hb]; simp
end Go.Proofs.Ytaakacahblndcaa

/- made.Dice.Chain: a contract that tells bounds. No statement of the seat. -/
import Derived.Test.YtdmchekkcmjafaaStmtDG
namespace Go.Proofs.Ytdmchekkcmjafaa
open Go.RowKit Go.Sort

/-- Small, at a time until T. -/
structure El (T : Int) (s : St) : Prop where
  small : Small s
  time : 0 ≤ s.time ∧ s.time ≤ T
  number : 0 ≤ s.number ∧ s.number ≤ 1000
def ElL (A : Int → Prop) (T : Int) (l : List St) : Prop := ∀ s ∈ l, A s.author ∧ El T s
theorem ElL.tame {A : Int → Prop} {T : Int} {l : List St} (h : ElL A T l) : TameL l := fun s hs => (h s hs).2.small.tame
theorem ElL.nil (A : Int → Prop) (T : Int) : ElL A T [] := fun s hs => by cases hs
theorem ElL.app {A : Int → Prop} {T : Int} {l m : List St} (h : ElL A T l) (k : ElL A T m) : ElL A T (l ++ m) := fun s hs => by
  rcases List.mem_append.1 hs with h1 | h1
  · exact h s h1
  · exact k s h1
theorem ElL.one {A : Int → Prop} {T : Int} {s : St} (h : A s.author ∧ El T s) : ElL A T [s] := fun x hx => by
  rw [List.mem_singleton.1 hx]; exact h
theorem El.le {T T' : Int} {s : St} (h : El T s) (hT : T ≤ T') : El T' s := ⟨h.small, ⟨h.time.1, by have := h.time.2; omega⟩, h.number⟩
theorem ElL.le {A : Int → Prop} {T T' : Int} {l : List St} (h : ElL A T l) (hT : T ≤ T') : ElL A T' l := fun s hs => ⟨(h s hs).1, (h s hs).2.le hT⟩
theorem El.next {T : Int} {a : Int} {l : List St} {s : St} (h1 : Small s) (h2 : 0 ≤ s.time ∧ s.time ≤ T) (hl : l.length ≤ 1000) : (nextS a l s).author = a ∧ El T (nextS a l s) := by
  refine ⟨rfl, ⟨⟨h1.list, h1.pins, ?_, h1.body, h1.digs⟩, h2, ?_⟩⟩
  · show (match l.getLast? with | none => (⟨#[]⟩ : ByteArray) | some q => sha (stB q)).size ≤ _
    cases l.getLast? with
    | none => show (0 : Nat) ≤ _; omega
    | some q => show (sha (stB q)).size ≤ _; rw [sha_size]; omega
  · show 0 ≤ (l.length : Int) ∧ (l.length : Int) ≤ 1000; omega
theorem Lies.mono' {P P' : Nat → Prop} {w : World} {x : St × Sv × Sv} (h : Lies P w x) (hx : ∀ b, P b → b < w.heap.size → P' b) : Lies P' w x := h.mono hx
theorem stmtD_v (N p : Nat) (a t : Int) (w : World) (hd : DiceOK N w p) (hN : N ≤ w.heap.size) (ha : 0 ≤ a ∧ a ≤ 1000) (ht : 0 ≤ t ∧ t ≤ 100000) :
    Calls Try.prog 59 #[.pointer (some ⟨p, 0, none⟩), .int .i64 a, .int .i64 t] w fun e w' => ∃ (r : St) (lq pq : Sv), e = .returned (.agg #[.int .i64 r.author, .int .i64 r.number, .string r.prev, .int .i64 r.time, .int .i64 r.kind, .int .i64 r.a, .int .i64 r.b, .int .i64 r.c, .slice lq.ao lq.n lq.c, .slice pq.ao pq.n pq.c, .string r.body, .int .i64 r.key, .string r.dig]) ∧ (r.author = a ∧ r.time = t ∧ Small r) ∧ Lies (fun b => w.heap.size ≤ b) w' (r, lq, pq) ∧ DiceOK N w' p ∧ Ex w.heap.size (some p) w w' :=
  (stmtD_w N p a t w hd hN ha ht).mono fun _e _w' ⟨r, la, na, ca, pa, np, cp, h⟩ => ⟨r, ⟨la, na, ca⟩, ⟨pa, np, cp⟩, h⟩
theorem BoxD.setRow {N p g base : Nat} {w W : World} {r r' : St} {l q l' q' : Sv} (h : BoxD N p g base w W r l q) (hl : Lies (fun b => base ≤ b ∧ b ≠ g) W (r', l', q')) : BoxD N p g base w (W.setRow g (stE (r', l', q')).toArray) r' l' q' := by
  obtain ⟨h1, h2, h3, h4, h5⟩ := h
  exact ⟨h1.keep (B := N) ((Ex.refl _ _ W).setRow _ _ (.inr (by omega))) (Nat.le_refl _), h2.setRow _ _ (.inr (by omega)), setRow_heap _ _ _ _ _ _ h3, hl.keep fun b hb _ => setRow_other _ _ _ _ hb.2, h5.1, h5.2.1, h5.2.2.1, h5.2.2.2.1, by simpa using h5.2.2.2.2⟩
set_option maxHeartbeats 32000000 in
set_option maxRecDepth 100000 in
theorem chainD_w (N p : Nat) (a : Int) (most : Nat) (w : World) (hd : DiceOK N w p) (hN : N ≤ w.heap.size) (ha : 0 ≤ a ∧ a ≤ 1000) (hm : most ≤ 10) :
    Calls Try.prog 43 #[.pointer (some ⟨p, 0, none⟩), .int .i64 a, .int .i64 most] w fun e w' => ∃ (ro : Option Addr) (rc k : Nat) (l : List St), e = .returned (.slice ro k rc) ∧ (k = l.length ∧ k ≤ most) ∧ OwnS w' w.heap.size ro rc l ∧ ElL (fun x => x = a) (9 + 20 * (most : Int)) l ∧ DiceOK N w' p ∧ Ex w.heap.size (some p) w w' := by
  have hp := hd.lt
  have HD0 := Lib.hid hd
  clear hd
  go_enter Try.func43, Try.ntmps43
  go_wp2_with (first
    | (go_at_call 39
       (fail_if_success (first | have _x := HD1 | fail))
       refine (next_w N p 10 _ HD0.out (by omega) (by omega)).mono ?_
       rintro e w1 ⟨k0, rfl, hk0, hd, hex⟩
       have HD1 : Hid (DiceOK N w1 p ∧ Ex w.heap.size (some p) w w1) := Lib.hid ⟨hd, hex⟩
       have hz1 : w.heap.size ≤ w1.heap.size := hex.size
       clear hd hex)
    | (go_at_call 39
       refine (next_w N p (most + 1) _ HD1.out.1 (by omega) (by omega)).mono ?_
       rintro e w2 ⟨m0, rfl, hm0, hd, hex⟩
       have HD2 : Hid (DiceOK N w2 p ∧ Ex w.heap.size (some p) w w2) := Lib.hid ⟨hd, HD1.out.2.trans hex hz1 (fun q e _ => by cases e; rfl)⟩
       clear hd hex)
    | fail)
  go_loopw [7, 8, 9, 10, 11, 12] (fun v t i u1 u2 u3 wr => ∃ (m k : Nat) (ro : Option Addr) (rc : Nat) (l : List St) (tt : Int), i = .int .i64 m ∧ v = .slice ro k rc ∧ t = .int .i64 tt ∧ Hid (l.length = k) ∧ k + m ≤ most ∧ (0 ≤ tt ∧ tt + 20 * (m : Int) ≤ 9 + 20 * (most : Int)) ∧ Hid (OwnS wr w.heap.size ro rc l) ∧ Hid (ElL (fun x => x = a) (9 + 20 * (most : Int)) l) ∧ Hid (DiceOK N wr p) ∧ Ex w.heap.size (some p) w wr) (fun _ _ i _ _ _ _ => (intOf i).toNat)
  case atStart => exact ⟨m0, 0, none, 0, [], k0, rfl, rfl, rfl, Lib.hid rfl, by omega, by omega, Lib.hid (OwnS.nil _ _), Lib.hid (ElL.nil _ _), Lib.hid HD2.out.1, HD2.out.2⟩
  case round =>
    obtain ⟨m, k, ro, rc, l, tt, rfl, rfl, rfl, HK, hkm, htt, HO, HEL, HD, hex⟩ := hrel
    have hsz := hex.size
    by_cases h0 : 0 < m
    · have h0I : (0 : Int) < (m : Int) := by omega
      have h0d : decide (0 < m) = true := decide_eq_true h0
      go_upto_region 8 with (first
        | (go_at_call 58
           refine (of_w N p _ [1, 0, 5, 20] _ (HD.out.keep (Ex.new wr _) (by omega)) (IntsO.lit _ rfl rfl (by omega)) (by decide) (by decide)).mono ?_
           rintro e w3 ⟨y, rfl, hy, hd, hex3⟩
           have HD3 : Hid (DiceOK N w3 p ∧ Ex wr.heap.size (some p) wr w3) := Lib.hid ⟨hd, ((Ex.new wr _).weaken _).trans hex3 (by simp) (fun q e _ => by cases e; rfl)⟩
           have hz3 : wr.heap.size ≤ w3.heap.size := HD3.out.2.size
           have hy2 : 0 ≤ y ∧ y ≤ 20 := by simp at hy; omega
           clear hd hex3 hy)
        | (go_at_call 59
           refine (stmtD_v N p a (tt + y) _ HD3.out.1 (by omega) ha (by omega)).mono ?_
           rintro e w4 ⟨r, lq, pq, rfl, ⟨hra, hrt, hrs⟩, hlies, hd, hex4⟩
           have HD4 : Hid (DiceOK N w4 p ∧ Ex wr.heap.size (some p) wr w4) := Lib.hid ⟨hd, HD3.out.2.trans hex4 hz3 (fun q e _ => by cases e; rfl)⟩
           have HL4 : Hid (Lies (fun b => w3.heap.size ≤ b) w4 (r, lq, pq)) := Lib.hid hlies
           have hz4 : w3.heap.size ≤ w4.heap.size := hex4.size
           have HRS : Hid (r.time = tt + y ∧ Small r) := Lib.hid ⟨hrt, hrs⟩
           clear hd hex4 hlies hra hrt hrs)
        | fail)
      obtain ⟨wb, hwb⟩ : ∃ wb : World, wb = w4.alloc (.cells #[.int .i64 r.author, .int .i64 r.number, .string r.prev, .int .i64 r.time, .int .i64 r.kind, .int .i64 r.a, .int .i64 r.b, .int .i64 r.c, .slice lq.ao lq.n lq.c, .slice pq.ao pq.n pq.c, .string r.body, .int .i64 r.key, .string r.dig] 30) := ⟨_, rfl⟩
      have MB : Hid (BoxD N p w4.heap.size w3.heap.size wr wb r lq pq) := Lib.hid (by
        rw [hwb]
        exact BoxD.start hp (by omega) HD4.out.1 HD4.out.2 hz3 ((HL4.out.mono' (P' := fun b => w3.heap.size ≤ b ∧ b ≠ w4.heap.size) fun b h hb => ⟨h, by omega⟩).keep fun b _ hb => (Ex.new w4 _).block b hb (by simp)))
      rw [← hwb]
      clear hwb
      by_cases m1 : m = 1
      · have m1I : (m : Int) = 1 := by omega
        have m1d : ((m : Int) == 1) = true := by simp [m1I]
        have m1e : (m == 1) = true := by simp [m1]
        go_upto_if 37 with (first
          | (go_at_call 57
             refine (one_w N p 6 _ MB.out.dice (by omega) (by omega)).mono ?_
             rintro e wo ⟨bo, rfl, hd, hex5⟩
             have MO := Lib.hid (MB.out.call hd hex5)
             clear hd hex5)
          | fail)
        cases bo with
        | true =>
          obtain ⟨rz, hrz⟩ : ∃ rz : St, rz = ⟨a, 0, ⟨#[]⟩, tt + y, 3, 0, 0, 0, [], [], ⟨#[]⟩, 0, ⟨#[]⟩⟩ := ⟨_, rfl⟩
          obtain ⟨lz, hlz⟩ : ∃ lz : Sv, lz = ⟨none, 0, 0⟩ := ⟨_, rfl⟩
          have HRZ : Hid (rz.time = tt + y ∧ Small rz) := Lib.hid (by
            rw [hrz]
            exact ⟨rfl, ⟨by simp, by simp, by show (0 : Nat) ≤ _; omega, by show (0 : Nat) ≤ _; omega, by simp⟩⟩)
          go_upto_region 10 with (refine wpList_store_rowTo rfl 30 (.tmp 10) (.tmp 40) rfl rfl w4.heap.size #[.int .i64 a, .int .i64 0, .string ⟨#[]⟩, .int .i64 (tt + y), .int .i64 3, .int .i64 0, .int .i64 0, .int .i64 0, .slice none 0 0, .slice none 0 0, .string ⟨#[]⟩, .int .i64 0, .string ⟨#[]⟩] (by rfl) (by rfl) 30 (stE (r, lq, pq)).toArray MO.out.blk Try.sizeSt rfl (by simp [Value.oneCell']) ?_)
          obtain ⟨wz, hwz⟩ : ∃ wz : World, wz = wo.setRow w4.heap.size #[.int .i64 a, .int .i64 0, .string ⟨#[]⟩, .int .i64 (tt + y), .int .i64 3, .int .i64 0, .int .i64 0, .int .i64 0, .slice none 0 0, .slice none 0 0, .string ⟨#[]⟩, .int .i64 0, .string ⟨#[]⟩] := ⟨_, rfl⟩
          have MZ : Hid (BoxD N p w4.heap.size w3.heap.size wr wz rz lz lz) := Lib.hid (by
            rw [hwz, hrz, hlz]
            exact MO.out.setRow (r' := ⟨a, 0, ⟨#[]⟩, tt + y, 3, 0, 0, 0, [], [], ⟨#[]⟩, 0, ⟨#[]⟩⟩) (l' := ⟨none, 0, 0⟩) (q' := ⟨none, 0, 0⟩) (Lies.none _ _ rfl rfl))
          rw [← hwz]
          clear hwz hrz hlz
          obtain ⟨⟨d0, d1, d2, d3, d4, d5, d6, d7, d8, d9, d10, d11, d12⟩, fz⟩ := MZ.out.cells
          have HOW : Hid (OwnS wz w.heap.size ro rc l) := Lib.hid (HO.out.keepP MZ.out.ex (Nat.le_refl _) (fun q e => by cases e; omega))
          have hzW : wr.heap.size ≤ wz.heap.size := MZ.out.ex.size
          go_wp2_with (first
            | (go_at_call 60
               refine (next04_any (.slice ro k rc) l a rz lz.ao lz.ao lz.n lz.c lz.n lz.c wz (by have h := HOW.out.sl; rw [HK.out] at h; exact h) (by rw [HK.out]; omega) HEL.out.tame MZ.out.lies HRZ.out.2.tame).mono ?_
               rintro e wn ⟨x, la, na, ca, pa, np, cp, rfl, hlx, hx0, hex⟩
               have HLX := Lib.hid hlx
               have HX0 := Lib.hid hx0
               have HEN := Lib.hid hex
               have hzn : wz.heap.size ≤ wn.heap.size := hex.size
               have HON : Hid (OwnS wn w.heap.size ro rc l) := Lib.hid (HOW.out.keep HEN.out (Nat.le_refl _))
               have HDN : Hid (DiceOK N wn p ∧ Ex wr.heap.size (some p) wr wn) := Lib.hid ⟨MZ.out.dice.keep HEN.out (by have := MZ.out.pos; omega), MZ.out.ex.trans HEN.out hzW (by simp)⟩
               clear hlx hx0 hex d0 d1 d2 d3 d4 d5 d6 d7 d8 d9 d10 d11 d12 fz
               obtain ⟨c, hc⟩ : ∃ c, c = nextE a l rz := ⟨_, rfl⟩
               have HC := Lib.hid hc
               rw [← hc]
               clear hc
               by_cases c0 : c = 0
               · have c0d : (c == 0) = true := by simp [c0]
                 have HXE : Hid (x.author = a ∧ El (9 + 20 * (most : Int)) x) := Lib.hid (by
                   rw [HX0.out (by rw [← HC.out]; exact c0)]
                   exact El.next HRZ.out.2 (by have := HRZ.out.1; omega) (by rw [HK.out]; omega))
                 clear c0
                 go_upto_region 12 with (fail)
                 obtain ⟨wm, hwm⟩ : ∃ wm : World, wm = wn.alloc (.cells #[.int .i64 x.author, .int .i64 x.number, .string x.prev, .int .i64 x.time, .int .i64 x.kind, .int .i64 x.a, .int .i64 x.b, .int .i64 x.c, .slice la na ca, .slice pa np cp, .string x.body, .int .i64 x.key, .string x.dig] 30) := ⟨_, rfl⟩
                 have HEM : Hid (Ex wn.heap.size none wn wm) := Lib.hid (by rw [hwm]; exact Ex.new wn _)
                 have hzm : wn.heap.size < wm.heap.size := by rw [hwm]; simp
                 have hbm : wm.heap[wn.heap.size]? = some (.cells #[.int .i64 x.author, .int .i64 x.number, .string x.prev, .int .i64 x.time, .int .i64 x.kind, .int .i64 x.a, .int .i64 x.b, .int .i64 x.c, .slice la na ca, .slice pa np cp, .string x.body, .int .i64 x.key, .string x.dig] 30 (0, 0)) := by rw [hwm]; exact heap_alloc_new wn _
                 rw [← hwm]
                 clear hwm
                 obtain ⟨⟨d0, d1, d2, d3, d4, d5, d6, d7, d8, d9, d10, d11, d12⟩, fz⟩ := st_block hbm
                 go_wp2_with (at_builtin; refine wpList_appT rfl (.tmp 50) (.tmp 52) _ (by rfl) Try.underlying22 Try.infoSt w.heap.size w.heap.size ro rc k l HK.out (by rfl) (some ⟨wm.heap.size, 0, none⟩) 1 1 (by rfl) [(x, ⟨la, na, ca⟩, ⟨pa, np, cp⟩)] rfl (HON.out.t.keep (HEM.out.trans (Ex.new wm _) (by omega) (by simp)) (Nat.le_refl _)) (lit_cells rfl) (fun y hy => by rw [List.mem_singleton.1 hy]; exact (HLX.out.keep fun b _ hb => ((HEM.out.trans (Ex.new wm _) (by omega) (by simp)).block b hb (by simp))).mono fun b h _ => ⟨by omega, fun e => by have := HOW.out.t.row b e; omega⟩) (by omega) (by simp; omega) (k + 1) (by omega) ?_; intro ao3 cap3 wd hod hed hbd hrd; have HD : Hid (OwnS wd w.heap.size ao3 cap3 (l ++ [x]) ∧ Ex w.heap.size none wn wd) := Lib.hid ⟨hod, ((HEM.out.trans (Ex.new wm _) (by omega) (by simp)).mono (by omega)).trans hed (by omega) (by simp)⟩; clear hod hed hbd hrd)
                 go_roundw
                 case rel => exact ⟨m - 1, k + 1, ao3, cap3, l ++ [x], tt + y, by first | go_num | (congr 1; omega), rfl, rfl, Lib.hid (by rw [List.length_append, HK.out]; rfl), by omega, by omega, Lib.hid HD.out.1, Lib.hid (HEL.out.app (ElL.one HXE.out)), Lib.hid (HDN.out.1.keep HD.out.2 hN), (hex.trans HDN.out.2 hsz (fun q e _ => by cases e; rfl)).trans HD.out.2 (Nat.le_refl _) (by simp)⟩
                 case measure => simp [intOf] <;> omega
               · have c0d : (c == 0) = false := by simp [c0]
                 clear c0
                 go_wp2
                 go_roundw
                 case rel => exact ⟨m - 1, k, ro, rc, l, tt + y, by first | go_num | (congr 1; omega), rfl, rfl, HK, by omega, by omega, Lib.hid (HON.out.keep (Ex.new wn _) (Nat.le_refl _)), HEL, Lib.hid (HDN.out.1.keep (Ex.new wn _) (by omega)), (hex.trans HDN.out.2 hsz (fun q e _ => by cases e; rfl)).trans ((Ex.new wn _).mono (by omega)) (Nat.le_refl _) (by simp)⟩
                 case measure => simp [intOf] <;> omega)
            | fail)
        | false =>
          obtain ⟨⟨d0, d1, d2, d3, d4, d5, d6, d7, d8, d9, d10, d11, d12⟩, fz⟩ := MO.out.cells
          have HOW : Hid (OwnS wo w.heap.size ro rc l) := Lib.hid (HO.out.keepP MO.out.ex (Nat.le_refl _) (fun q e => by cases e; omega))
          have hzW : wr.heap.size ≤ wo.heap.size := MO.out.ex.size
          go_wp2_with (first
            | (go_at_call 60
               refine (next04_any (.slice ro k rc) l a r lq.ao pq.ao lq.n lq.c pq.n pq.c wo (by have h := HOW.out.sl; rw [HK.out] at h; exact h) (by rw [HK.out]; omega) HEL.out.tame MO.out.lies HRS.out.2.tame).mono ?_
               rintro e wn ⟨x, la, na, ca, pa, np, cp, rfl, hlx, hx0, hex⟩
               have HLX := Lib.hid hlx
               have HX0 := Lib.hid hx0
               have HEN := Lib.hid hex
               have hzn : wo.heap.size ≤ wn.heap.size := hex.size
               have HON : Hid (OwnS wn w.heap.size ro rc l) := Lib.hid (HOW.out.keep HEN.out (Nat.le_refl _))
               have HDN : Hid (DiceOK N wn p ∧ Ex wr.heap.size (some p) wr wn) := Lib.hid ⟨MO.out.dice.keep HEN.out (by have := MO.out.pos; omega), MO.out.ex.trans HEN.out hzW (by simp)⟩
               clear hlx hx0 hex d0 d1 d2 d3 d4 d5 d6 d7 d8 d9 d10 d11 d12 fz
               obtain ⟨c, hc⟩ : ∃ c, c = nextE a l r := ⟨_, rfl⟩
               have HC := Lib.hid hc
               rw [← hc]
               clear hc
               by_cases c0 : c = 0
               · have c0d : (c == 0) = true := by simp [c0]
                 have HXE : Hid (x.author = a ∧ El (9 + 20 * (most : Int)) x) := Lib.hid (by
                   rw [HX0.out (by rw [← HC.out]; exact c0)]
                   exact El.next HRS.out.2 (by have := HRS.out.1; omega) (by rw [HK.out]; omega))
                 clear c0
                 go_upto_region 12 with (fail)
                 obtain ⟨wm, hwm⟩ : ∃ wm : World, wm = wn.alloc (.cells #[.int .i64 x.author, .int .i64 x.number, .string x.prev, .int .i64 x.time, .int .i64 x.kind, .int .i64 x.a, .int .i64 x.b, .int .i64 x.c, .slice la na ca, .slice pa np cp, .string x.body, .int .i64 x.key, .string x.dig] 30) := ⟨_, rfl⟩
                 have HEM : Hid (Ex wn.heap.size none wn wm) := Lib.hid (by rw [hwm]; exact Ex.new wn _)
                 have hzm : wn.heap.size < wm.heap.size := by rw [hwm]; simp
                 have hbm : wm.heap[wn.heap.size]? = some (.cells #[.int .i64 x.author, .int .i64 x.number, .string x.prev, .int .i64 x.time, .int .i64 x.kind, .int .i64 x.a, .int .i64 x.b, .int .i64 x.c, .slice la na ca, .slice pa np cp, .string x.body, .int .i64 x.key, .string x.dig] 30 (0, 0)) := by rw [hwm]; exact heap_alloc_new wn _
                 rw [← hwm]
                 clear hwm
                 obtain ⟨⟨d0, d1, d2, d3, d4, d5, d6, d7, d8, d9, d10, d11, d12⟩, fz⟩ := st_block hbm
                 go_wp2_with (at_builtin; refine wpList_appT rfl (.tmp 50) (.tmp 52) _ (by rfl) Try.underlying22 Try.infoSt w.heap.size w.heap.size ro rc k l HK.out (by rfl) (some ⟨wm.heap.size, 0, none⟩) 1 1 (by rfl) [(x, ⟨la, na, ca⟩, ⟨pa, np, cp⟩)] rfl (HON.out.t.keep (HEM.out.trans (Ex.new wm _) (by omega) (by simp)) (Nat.le_refl _)) (lit_cells rfl) (fun y hy => by rw [List.mem_singleton.1 hy]; exact (HLX.out.keep fun b _ hb => ((HEM.out.trans (Ex.new wm _) (by omega) (by simp)).block b hb (by simp))).mono fun b h _ => ⟨by omega, fun e => by have := HOW.out.t.row b e; omega⟩) (by omega) (by simp; omega) (k + 1) (by omega) ?_; intro ao3 cap3 wd hod hed hbd hrd; have HD : Hid (OwnS wd w.heap.size ao3 cap3 (l ++ [x]) ∧ Ex w.heap.size none wn wd) := Lib.hid ⟨hod, ((HEM.out.trans (Ex.new wm _) (by omega) (by simp)).mono (by omega)).trans hed (by omega) (by simp)⟩; clear hod hed hbd hrd)
                 go_roundw
                 case rel => exact ⟨m - 1, k + 1, ao3, cap3, l ++ [x], tt + y, by first | go_num | (congr 1; omega), rfl, rfl, Lib.hid (by rw [List.length_append, HK.out]; rfl), by omega, by omega, Lib.hid HD.out.1, Lib.hid (HEL.out.app (ElL.one HXE.out)), Lib.hid (HDN.out.1.keep HD.out.2 hN), (hex.trans HDN.out.2 hsz (fun q e _ => by cases e; rfl)).trans HD.out.2 (Nat.le_refl _) (by simp)⟩
                 case measure => simp [intOf] <;> omega
               · have c0d : (c == 0) = false := by simp [c0]
                 clear c0
                 go_wp2
                 go_roundw
                 case rel => exact ⟨m - 1, k, ro, rc, l, tt + y, by first | go_num | (congr 1; omega), rfl, rfl, HK, by omega, by omega, Lib.hid (HON.out.keep (Ex.new wn _) (Nat.le_refl _)), HEL, Lib.hid (HDN.out.1.keep (Ex.new wn _) (by omega)), (hex.trans HDN.out.2 hsz (fun q e _ => by cases e; rfl)).trans ((Ex.new wn _).mono (by omega)) (Nat.le_refl _) (by simp)⟩
                 case measure => simp [intOf] <;> omega)
            | fail)
      · have m1I : ¬ (m : Int) = 1 := by omega
        have m1d : ((m : Int) == 1) = false := by simp [m1I]
        have m1e : (m == 1) = false := by simp [m1]
        go_upto_region 10 with (fail)
        obtain ⟨⟨d0, d1, d2, d3, d4, d5, d6, d7, d8, d9, d10, d11, d12⟩, fz⟩ := MB.out.cells
        have HOW : Hid (OwnS wb w.heap.size ro rc l) := Lib.hid (HO.out.keepP MB.out.ex (Nat.le_refl _) (fun q e => by cases e; omega))
        have hzW : wr.heap.size ≤ wb.heap.size := MB.out.ex.size
        go_wp2_with (first
          | (go_at_call 60
             refine (next04_any (.slice ro k rc) l a r lq.ao pq.ao lq.n lq.c pq.n pq.c wb (by have h := HOW.out.sl; rw [HK.out] at h; exact h) (by rw [HK.out]; omega) HEL.out.tame MB.out.lies HRS.out.2.tame).mono ?_
             rintro e wn ⟨x, la, na, ca, pa, np, cp, rfl, hlx, hx0, hex⟩
             have HLX := Lib.hid hlx
             have HX0 := Lib.hid hx0
             have HEN := Lib.hid hex
             have hzn : wb.heap.size ≤ wn.heap.size := hex.size
             have HON : Hid (OwnS wn w.heap.size ro rc l) := Lib.hid (HOW.out.keep HEN.out (Nat.le_refl _))
             have HDN : Hid (DiceOK N wn p ∧ Ex wr.heap.size (some p) wr wn) := Lib.hid ⟨MB.out.dice.keep HEN.out (by have := MB.out.pos; omega), MB.out.ex.trans HEN.out hzW (by simp)⟩
             clear hlx hx0 hex d0 d1 d2 d3 d4 d5 d6 d7 d8 d9 d10 d11 d12 fz
             obtain ⟨c, hc⟩ : ∃ c, c = nextE a l r := ⟨_, rfl⟩
             have HC := Lib.hid hc
             rw [← hc]
             clear hc
             by_cases c0 : c = 0
             · have c0d : (c == 0) = true := by simp [c0]
               have HXE : Hid (x.author = a ∧ El (9 + 20 * (most : Int)) x) := Lib.hid (by
                 rw [HX0.out (by rw [← HC.out]; exact c0)]
                 exact El.next HRS.out.2 (by have := HRS.out.1; omega) (by rw [HK.out]; omega))
               clear c0
               go_upto_region 12 with (fail)
               obtain ⟨wm, hwm⟩ : ∃ wm : World, wm = wn.alloc (.cells #[.int .i64 x.author, .int .i64 x.number, .string x.prev, .int .i64 x.time, .int .i64 x.kind, .int .i64 x.a, .int .i64 x.b, .int .i64 x.c, .slice la na ca, .slice pa np cp, .string x.body, .int .i64 x.key, .string x.dig] 30) := ⟨_, rfl⟩
               have HEM : Hid (Ex wn.heap.size none wn wm) := Lib.hid (by rw [hwm]; exact Ex.new wn _)
               have hzm : wn.heap.size < wm.heap.size := by rw [hwm]; simp
               have hbm : wm.heap[wn.heap.size]? = some (.cells #[.int .i64 x.author, .int .i64 x.number, .string x.prev, .int .i64 x.time, .int .i64 x.kind, .int .i64 x.a, .int .i64 x.b, .int .i64 x.c, .slice la na ca, .slice pa np cp, .string x.body, .int .i64 x.key, .string x.dig] 30 (0, 0)) := by rw [hwm]; exact heap_alloc_new wn _
               rw [← hwm]
               clear hwm
               obtain ⟨⟨d0, d1, d2, d3, d4, d5, d6, d7, d8, d9, d10, d11, d12⟩, fz⟩ := st_block hbm
               go_wp2_with (at_builtin; refine wpList_appT rfl (.tmp 50) (.tmp 52) _ (by rfl) Try.underlying22 Try.infoSt w.heap.size w.heap.size ro rc k l HK.out (by rfl) (some ⟨wm.heap.size, 0, none⟩) 1 1 (by rfl) [(x, ⟨la, na, ca⟩, ⟨pa, np, cp⟩)] rfl (HON.out.t.keep (HEM.out.trans (Ex.new wm _) (by omega) (by simp)) (Nat.le_refl _)) (lit_cells rfl) (fun y hy => by rw [List.mem_singleton.1 hy]; exact (HLX.out.keep fun b _ hb => ((HEM.out.trans (Ex.new wm _) (by omega) (by simp)).block b hb (by simp))).mono fun b h _ => ⟨by omega, fun e => by have := HOW.out.t.row b e; omega⟩) (by omega) (by simp; omega) (k + 1) (by omega) ?_; intro ao3 cap3 wd hod hed hbd hrd; have HD : Hid (OwnS wd w.heap.size ao3 cap3 (l ++ [x]) ∧ Ex w.heap.size none wn wd) := Lib.hid ⟨hod, ((HEM.out.trans (Ex.new wm _) (by omega) (by simp)).mono (by omega)).trans hed (by omega) (by simp)⟩; clear hod hed hbd hrd)
               go_roundw
               case rel => exact ⟨m - 1, k + 1, ao3, cap3, l ++ [x], tt + y, by first | go_num | (congr 1; omega), rfl, rfl, Lib.hid (by rw [List.length_append, HK.out]; rfl), by omega, by omega, Lib.hid HD.out.1, Lib.hid (HEL.out.app (ElL.one HXE.out)), Lib.hid (HDN.out.1.keep HD.out.2 hN), (hex.trans HDN.out.2 hsz (fun q e _ => by cases e; rfl)).trans HD.out.2 (Nat.le_refl _) (by simp)⟩
               case measure => simp [intOf] <;> omega
             · have c0d : (c == 0) = false := by simp [c0]
               clear c0
               go_wp2
               go_roundw
               case rel => exact ⟨m - 1, k, ro, rc, l, tt + y, by first | go_num | (congr 1; omega), rfl, rfl, HK, by omega, by omega, Lib.hid (HON.out.keep (Ex.new wn _) (Nat.le_refl _)), HEL, Lib.hid (HDN.out.1.keep (Ex.new wn _) (by omega)), (hex.trans HDN.out.2 hsz (fun q e _ => by cases e; rfl)).trans ((Ex.new wn _).mono (by omega)) (Nat.le_refl _) (by simp)⟩
               case measure => simp [intOf] <;> omega)
          | fail)
    · have h0I : ¬ (0 : Int) < (m : Int) := by omega
      have h0d : decide (0 < m) = false := decide_eq_false h0
      go_wp2
      go_ret
      exact ⟨ro, rc, k, rfl, l, ⟨HK.out.symm, by omega⟩, HO.out, HEL.out, HD.out, hex⟩
end Go.Proofs.Ytdmchekkcmjafaa

/- ref09.Until, Window: contracts, no statement of the seat. -/
import Derived.Test.YtdmchekkcmjafaaOwnS
namespace Go.Proofs.Ytdmchekkcmjafaa
open Go.RowKit Go.Sort

theorem filter_yes {p : St → Bool} {l : List St} {k : Nat} {s : St} (h : l[k]? = some s) (hp : p s = true) : (l.take (k + 1)).filter p = (l.take k).filter p ++ [s] := by
  rw [List.take_add_one, h, List.filter_append]; simp [hp]
theorem filter_no {p : St → Bool} {l : List St} {k : Nat} {s : St} (h : l[k]? = some s) (hp : p s = false) : (l.take (k + 1)).filter p = (l.take k).filter p := by
  rw [List.take_add_one, h, List.filter_append]; simp [hp]
theorem filter_le {p : St → Bool} {l : List St} {k : Nat} (hk : k ≤ l.length) : ((l.take k).filter p).length ≤ k := Nat.le_trans (List.length_filter_le _ _) (by simp; omega)

/-- The cells of a literal of one statement. -/
theorem lit_st {w : World} {x : St × Sv × Sv} {t : TypeId} {cs : Array Value} (h : cs.toList = stE x) : ∀ (j : Nat) (v : Value), (stE x)[j]? = some v → (w.alloc (.cells cs t)).cell? ⟨w.heap.size, j, none⟩ = some v := fun j v hv => by
  rw [cell_of_row _ _ _ _ _ _ (heap_alloc_new w _)]
  rw [← h] at hv
  simpa using hv
/-- Lists that have been laid anew do not lie in the row that was there before. -/
theorem lies_new {wr w2 : World} {base : Nat} {ao : Option Addr} {cap : Nat} {l : List St} {x : St × Sv × Sv} {o : Obj} (hown : OwnS wr base ao cap l) (hx : Lies (fun b => wr.heap.size ≤ b) w2 x) (hb : base ≤ wr.heap.size) : Lies (fun b => base ≤ b ∧ rowOf ao ≠ some b) (w2.alloc o) x := by
  obtain ⟨xs, _, h1, _⟩ := hown
  refine Lies.mono (P := fun b => wr.heap.size ≤ b) (hx.keep fun b _ hlt => (Ex.new w2 o).block b hlt (by simp)) (fun b hbb _ => ⟨by omega, fun e => ?_⟩)
  cases ao with
  | none => cases e
  | some ad =>
    have := (h1.lt ad rfl).2
    simp [rowOf] at e
    omega

set_option maxHeartbeats 2000000 in
set_option maxRecDepth 100000 in
theorem refUntil_any {P : Nat → Prop} (v : Value) (l : List St) (t : Int) (w : World) (hv : Sl stRep P w v l) (hm : l.length ≤ 100000) (hl : LightL 1000000 l) :
    Calls Try.prog 12 #[v, .int .i64 t] w fun e w' => ∃ ro rc, e = .returned (.slice ro (l.filter (fun s => decide (s.time ≤ t))).length rc) ∧ OwnS w' w.heap.size ro rc (l.filter (fun s => decide (s.time ≤ t))) ∧ Ex w.heap.size none w w' := by
  obtain ⟨ao, cap, rfl, hx⟩ := hv
  have HL := Lib.hid hl
  obtain ⟨p, hp⟩ : ∃ p : St → Bool, p = (fun s => decide (s.time ≤ t)) := ⟨_, rfl⟩
  have HP := Lib.hid hp
  rw [← hp]
  clear hl hp
  go_enter Try.func12, Try.ntmps12
  go_wp2
  go_loopw [5, 6] (fun v i wr => ∃ (k : Nat) (ro : Option Addr) (rc : Nat), k ≤ l.length ∧ i = .int .i64 k ∧ v = .slice ro ((l.take k).filter p).length rc ∧ OwnS wr w.heap.size ro rc ((l.take k).filter p) ∧ Ex w.heap.size none w wr) (fun _ i _ => l.length - (intOf i).toNat)
  case atStart => exact ⟨0, none, 0, by omega, rfl, by simp, by simpa using OwnS.nil _ _, Ex.refl _ _ _⟩
  case round =>
    obtain ⟨k, ro, rc, hk, rfl, rfl, hown, hex⟩ := hrel
    have hle := filter_le (p := p) hk
    have hsz := hex.size
    by_cases hlt : k < l.length
    · have fx := hx.keep (by decide) (fun b _ hb => hex.block b hb (by simp))
      obtain ⟨b, off, s, ⟨lo, ln, lc⟩, ⟨po, pn, pc⟩, rfl, _, hls, hr, HX⟩ := st_get fx k hlt
      have hc := st_at hr
      simp only [Sv.v] at hc
      obtain ⟨c0, c1, c2, c3, c4, c5, c6, c7, c8, c9, c10, c11, c12⟩ := hc
      have hm1 := HL.out.get HX.out
      have HLS := Lib.hid hls
      have HO := Lib.hid hown
      clear fx hr hls hown
      by_cases hp : s.time ≤ t
      · have d1 : decide (s.time ≤ t) = true := decide_eq_true hp
        have HK : Hid ((l.take (k + 1)).filter p = (l.take k).filter p ++ [s]) := filter_yes HX.out (by rw [HP.out]; exact d1)
        go_wp2_with fail
        refine (copy03_lit s lo po ln lc pn pc _ HLS.out (by omega)).mono ?_
        rintro e w2 ⟨la, na, ca, pa, np, cp, rfl, hl2, hex2⟩
        have hs2 := hex2.size
        have HL2 := Lib.hid hl2
        clear hl2 c0 c1 c2 c3 c4 c5 c6 c7 c8 c9 c10 c11 c12
        go_wp2_with (at_builtin; refine wpList_appS rfl (.tmp 20) (.tmp 26) _ rfl Try.underlying22 Try.infoSt w.heap.size ro rc _ ((l.take k).filter p) rfl (by rfl) w2.heap.size (by rfl) (s, ⟨la, na, ca⟩, ⟨pa, np, cp⟩) (HO.out.keep (hex2.trans (Ex.new w2 _) hs2 (by simp)) (Nat.le_refl _)) (lit_st rfl) (lies_new HO.out HL2.out hsz) (by omega) (by simp <;> omega) ?_; intro ro' rc' w3 hown3 hex3)
        go_roundw
        case rel => exact ⟨k + 1, ro', rc', by omega, by go_num, by rw [HK.out, List.length_append]; rfl, by rw [HK.out]; exact hown3, (hex.trans hex2 hsz (by simp)).trans ((Ex.new w2 _).mono (show w.heap.size ≤ w2.heap.size by omega) |>.trans hex3 (Nat.le_refl _) (by simp)) (Nat.le_refl _) (by simp)⟩
        case measure => simp [intOf] <;> omega
      · have d1 : decide (s.time ≤ t) = false := decide_eq_false hp
        have HK : Hid ((l.take (k + 1)).filter p = (l.take k).filter p) := filter_no HX.out (by rw [HP.out]; exact d1)
        go_wp2
        go_roundw
        case rel => exact ⟨k + 1, ro, rc, by omega, by go_num, by rw [HK.out], by rw [HK.out]; exact HO.out, hex⟩
        case measure => simp [intOf] <;> omega
    · obtain rfl : k = l.length := by omega
      rw [List.take_length] at hown ⊢
      go_wp2
      go_ret
      exact ⟨ro, rc, rfl, hown, hex⟩

set_option maxHeartbeats 2000000 in
set_option maxRecDepth 100000 in
theorem refWindow_any {P : Nat → Prop} (v : Value) (l : List St) (t u : Int) (w : World) (hv : Sl stRep P w v l) (hm : l.length ≤ 100000) (hl : LightL 1000000 l) :
    Calls Try.prog 14 #[v, .int .i64 t, .int .i64 u] w fun e w' => ∃ ro rc, e = .returned (.slice ro (l.filter (fun s => decide (t ≤ s.time) && decide (s.time ≤ u))).length rc) ∧ OwnS w' w.heap.size ro rc (l.filter (fun s => decide (t ≤ s.time) && decide (s.time ≤ u))) ∧ Ex w.heap.size none w w' := by
  obtain ⟨ao, cap, rfl, hx⟩ := hv
  have HL := Lib.hid hl
  obtain ⟨p, hp⟩ : ∃ p : St → Bool, p = (fun s => decide (t ≤ s.time) && decide (s.time ≤ u)) := ⟨_, rfl⟩
  have HP := Lib.hid hp
  rw [← hp]
  clear hl hp
  go_enter Try.func14, Try.ntmps14
  go_wp2
  go_loopw [7, 8] (fun v i wr => ∃ (k : Nat) (ro : Option Addr) (rc : Nat), k ≤ l.length ∧ i = .int .i64 k ∧ v = .slice ro ((l.take k).filter p).length rc ∧ OwnS wr w.heap.size ro rc ((l.take k).filter p) ∧ Ex w.heap.size none w wr) (fun _ i _ => l.length - (intOf i).toNat)
  case atStart => exact ⟨0, none, 0, by omega, rfl, by simp, by simpa using OwnS.nil _ _, Ex.refl _ _ _⟩
  case round =>
    obtain ⟨k, ro, rc, hk, rfl, rfl, hown, hex⟩ := hrel
    have hle := filter_le (p := p) hk
    have hsz := hex.size
    by_cases hlt : k < l.length
    · have fx := hx.keep (by decide) (fun b _ hb => hex.block b hb (by simp))
      obtain ⟨b, off, s, ⟨lo, ln, lc⟩, ⟨po, pn, pc⟩, rfl, _, hls, hr, HX⟩ := st_get fx k hlt
      have hc := st_at hr
      simp only [Sv.v] at hc
      obtain ⟨c0, c1, c2, c3, c4, c5, c6, c7, c8, c9, c10, c11, c12⟩ := hc
      have hm1 := HL.out.get HX.out
      have HLS := Lib.hid hls
      have HO := Lib.hid hown
      clear fx hr hls hown
      by_cases hp : t ≤ s.time
      · have d1 : decide (t ≤ s.time) = true := decide_eq_true hp
        by_cases hq : s.time ≤ u
        · have d2 : decide (s.time ≤ u) = true := decide_eq_true hq
          have HK : Hid ((l.take (k + 1)).filter p = (l.take k).filter p ++ [s]) := filter_yes HX.out (by rw [HP.out]; simp [d1, d2])
          go_wp2_with fail
          refine (copy03_lit s lo po ln lc pn pc _ HLS.out (by omega)).mono ?_
          rintro e w2 ⟨la, na, ca, pa, np, cp, rfl, hl2, hex2⟩
          have hs2 := hex2.size
          have HL2 := Lib.hid hl2
          clear hl2 c0 c1 c2 c3 c4 c5 c6 c7 c8 c9 c10 c11 c12
          go_wp2_with (at_builtin; refine wpList_appS rfl (.tmp 31) (.tmp 37) _ rfl Try.underlying22 Try.infoSt w.heap.size ro rc _ ((l.take k).filter p) rfl (by rfl) w2.heap.size (by rfl) (s, ⟨la, na, ca⟩, ⟨pa, np, cp⟩) (HO.out.keep (hex2.trans (Ex.new w2 _) hs2 (by simp)) (Nat.le_refl _)) (lit_st rfl) (lies_new HO.out HL2.out hsz) (by omega) (by simp <;> omega) ?_; intro ro' rc' w3 hown3 hex3)
          go_roundw
          case rel => exact ⟨k + 1, ro', rc', by omega, by go_num, by rw [HK.out, List.length_append]; rfl, by rw [HK.out]; exact hown3, (hex.trans hex2 hsz (by simp)).trans ((Ex.new w2 _).mono (show w.heap.size ≤ w2.heap.size by omega) |>.trans hex3 (Nat.le_refl _) (by simp)) (Nat.le_refl _) (by simp)⟩
          case measure => simp [intOf] <;> omega
        · have d2 : decide (s.time ≤ u) = false := decide_eq_false hq
          have HK : Hid ((l.take (k + 1)).filter p = (l.take k).filter p) := filter_no HX.out (by rw [HP.out]; simp [d1, d2])
          go_wp2
          go_roundw
          case rel => exact ⟨k + 1, ro, rc, by omega, by go_num, by rw [HK.out], by rw [HK.out]; exact HO.out, hex⟩
          case measure => simp [intOf] <;> omega
      · have d1 : decide (t ≤ s.time) = false := decide_eq_false hp
        have HK : Hid ((l.take (k + 1)).filter p = (l.take k).filter p) := filter_no HX.out (by rw [HP.out]; simp [d1])
        go_wp2
        go_roundw
        case rel => exact ⟨k + 1, ro, rc, by omega, by go_num, by rw [HK.out], by rw [HK.out]; exact HO.out, hex⟩
        case measure => simp [intOf] <;> omega
    · obtain rfl : k = l.length := by omega
      rw [List.take_length] at hown ⊢
      go_wp2
      go_ret
      exact ⟨ro, rc, rfl, hown, hex⟩
end Go.Proofs.Ytdmchekkcmjafaa

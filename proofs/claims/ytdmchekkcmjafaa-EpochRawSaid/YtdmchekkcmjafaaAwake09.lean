/- The law's sanity check: a contract, no statement of the seat. -/
import Derived.Test.YtdmchekkcmjafaaOrderSt
import Derived.Test.YtdmchekkcmjafaaEpochWin
import Derived.Deep.RegionHeld3
namespace Go.Proofs.Ytdmchekkcmjafaa
open Go.RowKit Go.Sort

def st0 (a t : Int) : St := ⟨a, 0, ⟨#[]⟩, t, 0, 0, 0, 0, [], [], ⟨#[]⟩, 0, ⟨#[]⟩⟩
def awakeL : List St := [st0 2 5, st0 0 9, st0 1 5]
theorem of_a (w : World) : Calls Try.prog 8 #[.int .i64 10, .int .i64 5] w fun e w' => e = .returned (.int .i64 2) ∧ w = w' := of_any 10 5 w (by omega)
theorem of_b (w : World) : Calls Try.prog 8 #[.int .i64 (-1), .int .i64 5] w fun e w' => e = .returned (.int .i64 (-1)) ∧ w = w' := of_any (-1) 5 w (by omega)
theorem lit_awake {w : World} {t : TypeId} {cs : Array Value} (h : cs.toList = flatL stE (awakeL.map fun s => (s, ⟨none, 0, 0⟩, ⟨none, 0, 0⟩))) : SlAt stRep (fun _ => True) (w.alloc (.cells cs t)) (some ⟨w.heap.size, 0, none⟩) awakeL := by
  have := st_sl (P := fun _ => True) (w := w.alloc (.cells cs t)) (g := w.heap.size) (xs := awakeL.map fun s => (s, ⟨none, 0, 0⟩, ⟨none, 0, 0⟩)) trivial
    (holdsK_flat stE_len (fun j v hv => by rw [Nat.zero_add, cell_of_row _ _ _ _ _ _ (heap_alloc_new w _)]; rw [← h] at hv; simpa using hv) (fun j _ => by rw [Nat.zero_add]; unfold World.frozen?; rw [heap_alloc_new]; simp))
    (fun x hx => by
      simp only [List.mem_map] at hx
      obtain ⟨s, hs, rfl⟩ := hx
      have : s.list = [] ∧ s.pins = [] := by
        simp only [awakeL, List.mem_cons, List.not_mem_nil, or_false] at hs
        rcases hs with rfl | rfl | rfl <;> exact ⟨rfl, rfl⟩
      exact ⟨⟨none, 0, by rw [this.1]; rfl, by rw [this.1]; exact SlAt.nil _ _ _⟩, ⟨none, 0, by rw [this.2]; rfl, by rw [this.2]; exact SlAt.nil _ _ _⟩⟩)
  simpa [Function.comp_def] using this
theorem light_awake : LightL 1000000 awakeL := fun s hs => by
  simp only [awakeL, List.mem_cons, List.not_mem_nil, or_false] at hs
  rcases hs with rfl | rfl | rfl <;> exact ⟨by decide, by decide⟩

set_option maxHeartbeats 4000000 in
set_option maxRecDepth 100000 in
theorem awake09_any (w : World) : Calls Try.prog 7 #[] w fun e w' => e = .returned (.bool true) ∧ Ex w.heap.size none w w' := by
  go_enter Try.func7, Try.ntmps7
  go_wp2_with fail
  obtain ⟨w0, hw0⟩ : ∃ w0 : World, w0 = w.alloc (.cells #[.int .i64 2, .int .i64 0, .string ⟨#[]⟩, .int .i64 5, .int .i64 0, .int .i64 0, .int .i64 0, .int .i64 0, .slice none 0 0, .slice none 0 0, .string ⟨#[]⟩, .int .i64 0, .string ⟨#[]⟩, .int .i64 0, .int .i64 0, .string ⟨#[]⟩, .int .i64 9, .int .i64 0, .int .i64 0, .int .i64 0, .int .i64 0, .slice none 0 0, .slice none 0 0, .string ⟨#[]⟩, .int .i64 0, .string ⟨#[]⟩, .int .i64 1, .int .i64 0, .string ⟨#[]⟩, .int .i64 5, .int .i64 0, .int .i64 0, .int .i64 0, .int .i64 0, .slice none 0 0, .slice none 0 0, .string ⟨#[]⟩, .int .i64 0, .string ⟨#[]⟩] 30) := ⟨_, rfl⟩
  have HE0 : Hid (Ex w.heap.size none w w0) := by rw [hw0]; exact Ex.new w _
  have HL0 : Hid (SlAt stRep (fun _ => True) w0 (some ⟨w.heap.size, 0, none⟩) awakeL) := by rw [hw0]; exact lit_awake (w := w) (t := 30) rfl
  have HS0 : Hid (w.heap.size ≤ w0.heap.size) := HE0.out.size
  rw [← hw0]
  clear hw0
  refine (order_any _ awakeL _ ⟨_, _, rfl, HL0.out⟩ (by decide) light_awake).mono ?_
  rintro e w2 ⟨ro, rc, rfl, hsl, hex⟩
  obtain ⟨ro', rc', e1, hsa⟩ := hsl
  cases e1
  have HE1 : Hid (Ex w.heap.size none w w2) := HE0.out.trans hex HS0.out (by simp)
  obtain ⟨g, og, s, ⟨lo, ln, lc⟩, ⟨po, pn, pc⟩, rfl, _, _, hr, HX⟩ := st_get hsa 0 (by decide)
  have hs1 : s.author = 1 := by
    have h1 : (orderI beforeB awakeL)[0]? = some (st0 1 5) := by rfl
    rw [HX.out] at h1
    cases h1; rfl
  have HQ : Hid (∀ p : ExW w2, p.w'.cell? ⟨g, og, none⟩ = some (.int .i64 1)) := fun p => by
    have := (ExW.st_at hr p).1
    rw [Nat.zero_mul, Nat.add_zero] at this
    rw [this, ← hs1]
  have HL2 : Hid (SlAt stRep (fun _ => True) w2 (some ⟨w.heap.size, 0, none⟩) awakeL) := HL0.out.keep (by decide) (fun b _ hb => hex.block b hb (by simp))
  have hc0 := HQ.out ⟨w2, Ex.refl _ _ _⟩
  clear hsa hr hs1 hex
  have hl3 : awakeL.length = 3 := rfl
  rw [hl3]
  clear hl3
  go_wp2_with fail
  refine (of_a _).mono ?_
  rintro e w' ⟨rfl, rfl⟩
  go_wp2_with fail
  refine (of_b _).mono ?_
  rintro e w' ⟨rfl, rfl⟩
  go_wp2_with fail
  refine (until_any _ awakeL 5 _ ⟨_, _, rfl, HL2.out⟩ (by decide) light_awake).mono ?_
  rintro e wa ⟨ro, rc, rfl, hown, hexa⟩
  have HA : Hid (Ex w2.heap.size none w2 wa) := hexa
  have hza : w2.heap.size ≤ wa.heap.size := HA.out.size
  have hn : (awakeL.filter (fun s => decide (s.time ≤ 5))).length = 2 := rfl
  rw [hn]
  clear hown hexa hn
  go_wp2_with fail
  refine (window_any _ awakeL 6 9 _ ⟨_, _, rfl, HL2.out.keep (by decide) (fun b _ hb => HA.out.block b hb (by simp))⟩ (by decide) light_awake).mono ?_
  rintro e wb ⟨ro, rc, rfl, hown, hexb⟩
  have HB : Hid (Ex w2.heap.size none w2 wb) := HA.out.trans hexb hza (by simp)
  have hzb : w2.heap.size ≤ wb.heap.size := HB.out.size
  have hn : (awakeL.filter (fun s => decide (6 ≤ s.time) && decide (s.time ≤ 9))).length = 1 := rfl
  rw [hn]
  clear hown hexb hn hc0
  have hc0 := HQ.out ⟨_, HB.out⟩
  simp only at hc0
  go_wp2_with fail
  refine (latest_any _ awakeL _ ⟨_, _, rfl, HL2.out.keep (by decide) (fun b _ hb => HB.out.block b hb (by simp))⟩ (by decide)).mono ?_
  rintro e wc ⟨rfl, hexc⟩
  have HC : Hid (Ex w2.heap.size none w2 wc) := HB.out.trans hexc hzb (by simp)
  have hn : latestI awakeL = 9 := rfl
  rw [hn]
  clear hexc hn hc0
  go_wp2
  go_ret
  exact ⟨rfl, HE1.out.trans HC.out HE1.out.size (by simp)⟩
end Go.Proofs.Ytdmchekkcmjafaa

/- ref03.Copy: a contract, no statement of the seat. -/
import Derived.Test.YtdmchekkcmjafaaStm
namespace Go.Proofs.Ytdmchekkcmjafaa
open Go.RowKit Go.Sort

theorem Try.infoPin : (Try.prog.info? 66).map (fun i => (i.zero, i.size, i.bytes)) = some (some (.agg #[.int .i64 0, .int .i64 0, .string ⟨#[]⟩]), 3, 32) := by kernel_rfl
theorem ex_two0 {w : World} (o1 o2 : Obj) : Ex w.heap.size none w ((w.alloc o1).alloc o2) := (Ex.new w o1).trans ((Ex.new _ o2).mono (by simp)) (Nat.le_refl _) (by simp)
theorem ex_two_trans {w w' : World} {o1 o2 : Obj} (h : Ex ((w.alloc o1).alloc o2).heap.size none ((w.alloc o1).alloc o2) w') : Ex w.heap.size none w w' := (ex_two0 o1 o2).trans (h.mono (by simp <;> omega)) (Nat.le_refl _) (by simp)
theorem set_far {w : World} {b q o : Nat} {v : Value} {x : Option Obj} (h : b ≠ q) (e : w.heap[b]? = x) : (w.setCell ⟨q, o, none⟩ v).heap[b]? = x := (Below.heap_setCell _ _ _ _ (show b ≠ q from h)).trans e
theorem bcell {W w1 : World} (hb : Below W.heap.size W w1) : (∀ b o, b < W.heap.size → w1.cell? ⟨b, o, none⟩ = W.cell? ⟨b, o, none⟩) ∧ (∀ b o, b < W.heap.size → w1.frozen? ⟨b, o, none⟩ = W.frozen? ⟨b, o, none⟩) :=
  ⟨fun b o h => hb.cell (p := ⟨b, o, none⟩) h, fun b o h => hb.frozen (p := ⟨b, o, none⟩) h⟩
theorem own_ints_sl {w : World} {base : Nat} {ao : Option Addr} {cap : Nat} {xs : List Int} (h : OwnI w base ao cap xs) : Sl intRep (fun b => base ≤ b) w (.slice ao xs.length cap) xs :=
  ints_sl h.v (fun ao' n c e _ a ha => by cases e; exact (h.lt a ha).1)
theorem own_val_sl {α : Type} [Inhabited α] {enc : α → List Value} {k : Nat} {hk : ∀ x, (enc x).length = k} {h1 : ∀ x, ∀ v ∈ enc x, v.oneCell' = true} {w : World} {base : Nat} {e : TypeId} {ao : Option Addr} {cap : Nat} {xs : List α} (h : OwnE enc k e w base ao cap xs) : Sl (valRep enc k hk h1) (fun b => base ≤ b) w (.slice ao xs.length cap) xs := by
  refine ⟨ao, cap, rfl, ?_⟩
  rcases h.cases with ⟨_, _, h0⟩ | ⟨g, rfl, h2, _, _⟩
  · subst h0; exact SlAt.nil _ _ _
  · exact val_sl h2 (h.holds hk)

set_option maxHeartbeats 2000000 in
set_option maxRecDepth 100000 in
theorem copy03_any {P : Nat → Prop} (s : St) (lo po : Option Addr) (ln lc pn pc : Nat) (w : World) (hx1 : Sl intRep P w (.slice lo ln lc) s.list) (hx2 : Sl pinRep P w (.slice po pn pc) s.pins) (hm : s.list.length ≤ 1000000) (hm2 : s.pins.length ≤ 1000000) :
    Calls Try.prog 28 #[.agg #[.int .i64 s.author, .int .i64 s.number, .string s.prev, .int .i64 s.time, .int .i64 s.kind, .int .i64 s.a, .int .i64 s.b, .int .i64 s.c, .slice lo ln lc, .slice po pn pc, .string s.body, .int .i64 s.key, .string s.dig]] w fun e w' =>
      ∃ l p : Sv, e = .returned (.agg (stE (s, l, p)).toArray) ∧ Lies (fun b => w.heap.size ≤ b) w' (s, l, p) ∧ Ex w.heap.size none w w' := by
  have HX1 := Lib.hid hx1
  have HX2 := Lib.hid hx2
  obtain ⟨x0, c0, e0, r0⟩ := hx1
  obtain ⟨x1, c1, e1, r1⟩ := hx2
  clear r0 r1
  simp only [Value.slice.injEq] at e0 e1
  obtain ⟨rfl, rfl, rfl⟩ := e0
  obtain ⟨rfl, rfl, rfl⟩ := e1
  go_enter Try.func28, Try.ntmps28
  go_wp2_with (first
    | (at_builtin; refine wpList_appIs rfl (.const (.slice none 0 0)) (.tmp 4) _ rfl Try.underlying25 Try.infoInt _ none 0 [] s.list (.slice none 0 0) _ 0 rfl rfl (by rfl) (by rfl) (sl_ints (HX1.out.keep (by decide) (fun b _ hb => (ex_two0 _ _).block b hb (by simp)))) (OwnI.nil _ _) (Ex.refl _ _ _) (by simp; omega) (Nat.le_refl _) ?_; intro la lcap w1 hown1 hex1; obtain ⟨hc1, hf1⟩ := bcell hex1.below; have hz1 := hex1.size; simp at hz1; have hy1 : w.heap.size < w1.heap.size := (by omega); have hx1 : w.heap.size + 1 < w1.heap.size := (by omega); have HE1 : Hid (Ex w.heap.size none w w1) := ex_two_trans hex1; have HO1 := Lib.hid hown1; clear hown1 hex1)
    | (at_builtin
       have _tt := HE1
       refine wpList_appE rfl (.const (.slice none 0 0)) (.tmp 8) _ 66 rfl Try.underlying26 (.agg #[.int .i64 0, .int .i64 0, .string ⟨#[]⟩]) 3 32 Try.infoPin rfl (by decide) (by decide) pinE pinE_len one_pinE _ none 0 [] s.pins (.slice none 0 0) _ 0 rfl rfl (by rfl) po s.pins.length pc (by rfl) rfl rfl (val_cells (hk := pinE_len) (h1 := one_pinE) (by decide) (HX2.out.keep (by decide) (fun b _ hb => (HE1.out.setCell 8 none _ (Or.inr (Nat.le_refl _))).block b hb (by simp))).at') (OwnE.nil _ _ _ _ _) (Ex.refl _ _ _) (by simp; omega) (Nat.le_refl _) ?_
       intro pa pcap w2 hown2 hex2
       obtain ⟨hc2, hf2⟩ := bcell hex2.below
       have hz2 := hex2.size
       simp at hz2
       have hy2 : w.heap.size < w2.heap.size := (by omega)
       have hx2 : w.heap.size + 1 < w2.heap.size := (by omega)
       have HE2 : Hid (Ex w.heap.size none w w2) := ((HE1.out.setCell (q := w.heap.size) 8 none (.slice la s.list.length lcap) (Or.inr (Nat.le_refl _))).trans (hex2.mono (by simp <;> omega)) (Nat.le_refl _) (by simp))
       have HO2 := Lib.hid hown2
       have HX12 := Lib.hid hex2
       clear hown2 hex2
       have q8 : w2.cell? ⟨w.heap.size, 8, none⟩ = some (.slice la s.list.length lcap) := (hc2 w.heap.size 8 (by simpa using hy1)).trans (World.cell?_setCell_same _ _ _ (show w1.cell? ⟨w.heap.size, 8, none⟩ = some (.slice lo s.list.length lc) from (hc1 w.heap.size 8 (by simp <;> omega)).trans (by go_simp)))
       have qs := fun (o : Nat) (h : o ≠ 8) => ((hc2 w.heap.size o (by simpa using hy1)).trans (World.cell?_setCell_other _ _ _ _ (by simp <;> omega))).trans (hc1 w.heap.size o (by simp <;> omega))
       have qr := fun (o : Nat) => ((hc2 (w.heap.size + 1) o (by simpa using hx1)).trans (World.cell?_setCell_other _ _ _ _ (by simp))).trans (hc1 (w.heap.size + 1) o (by simp <;> omega))
       clear hc1 hc2))
  refine bodyPost_ret (v := .agg #[.int .i64 s.author, .int .i64 s.number, .string s.prev, .int .i64 s.time, .int .i64 s.kind, .int .i64 s.a, .int .i64 s.b, .int .i64 s.c, .slice la s.list.length lcap, .slice pa s.pins.length pcap, .string s.body, .int .i64 s.key, .string s.dig]) (by simp [results, Try.results28, go_sem, q8, qs, qr, hy2, hx2]) rfl ?_
  have hO1 : OwnI w2 (w.heap.size + 2) la lcap s.list := by
    have h1 := HO1.out
    have h2 : Ex w1.heap.size (some w.heap.size) w1 w2 := ((Ex.refl w1.heap.size (some w.heap.size) w1).setCell (q := w.heap.size) 8 none (.slice la s.list.length lcap) (Or.inl rfl)).trans HX12.out (by simp) (by simp)
    have h3 := h1.keep h2 (Nat.le_refl _) (fun q e => by cases e; simp <;> omega)
    simpa using h3
  have hO2 : OwnE pinE 3 66 w2 (w.heap.size + 2) pa pcap s.pins := by
    have h1 := HO2.out
    refine ⟨by simpa using h1.1, ?_⟩
    rcases h1.2 with h | ⟨g, cap, cur, h3, h4, h5⟩
    · exact Or.inl (by simpa using h)
    · exact Or.inr ⟨g, cap, cur, by simpa using h3, by simp at h4; omega, by simpa using h5⟩
  refine ⟨⟨la, s.list.length, lcap⟩, ⟨pa, s.pins.length, pcap⟩, rfl, ?_, ?_⟩
  · refine Lies.mono (P := fun b => w.heap.size + 2 ≤ b) (Lies.keep (w := w2) ⟨own_ints_sl hO1, own_val_sl hO2⟩ fun b hb _ => ?_) (fun b hb _ => by omega)
    iterate 14 refine set_far (by omega) ?_
    rfl
  · iterate 14 refine Ex.setCell ?_ _ none _ (Or.inr (by omega))
    exact HE2.out
end Go.Proofs.Ytdmchekkcmjafaa

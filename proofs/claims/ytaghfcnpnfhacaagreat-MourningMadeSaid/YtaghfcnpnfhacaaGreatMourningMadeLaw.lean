/- The statement Rows.MourningMadeSaid, for every input, without a condition: the law answers true and leaves its arguments as they were. The frame is after the guide's shell; the walk lies in MourningMadeWalk. -/
import Derived.Test.YtaghfcnpnfhacaaGreatRows
import Derived.Test.YtaghfcnpnfhacaaGreatMourningMadeWalkG
import Derived.WalkKit
import Derived.ProofKit
import Derived.OpenShut
import Derived.ShutString
import Derived.ChangeOld
import Derived.Below
import Derived.Test.YtaghfcnpnfhacaaGreatOpenStG
import Derived.Test.YtaghfcnpnfhacaaGreatMourningMadeFactsG
namespace Go.Proofs.YtaghfcnpnfhacaaGreat.mourningMade
open Go.ChangeShapes Go.WideShapes Go.ChangeAt Go.RowKit Go.Deep
open Go.ChangeShapes Go.WideShapes Go.ChangeAt Go.RowKit
open Go.ChangeMaps (open_string shut_string)

theorem own : ownKnob Tryz.prog.godebug = none := by kernel_rfl
theorem laidOut : laidOutB Tryz.prog = true := by kernel_rfl

/-- What is told of a slice of numbers that came in. -/
def IsRow (k : IntKind) (w : World) (a : Option Addr) (len cap : Nat) (zs : List Int) : Prop :=
  (a = none ∧ len = 0 ∧ cap = 0 ∧ zs = []) ∨
  ∃ x, a = some x ∧ len ≤ cap ∧ cap ≤ maxLen ∧ zs.length = cap ∧ (∀ i, i < zs.length → w.cell? (x.add i) = some (.int k (zs.getD i 0))) ∧ ∀ n ∈ zs, (Lit.int k n).wf = true
theorem int_cellL {H : Type} {enc : TypeId × Value → H} {w : World} {base : Nat} {spare : Nat → Bool} {held : Bool} {n : Nat} {cs : List Value} {x : DataW H × List MemPlace} (h : DataW.trod enc Tryz.prog w base spare held n 3 cs = some x) : ∃ i : Int, cs = [.int .i64 i] ∧ -9223372036854775808 ≤ i ∧ i ≤ 9223372036854775807 := by
  obtain ⟨i, e, _, hw⟩ := DataW.trod_int Tryz.underlying3 h
  refine ⟨i, e, ?_⟩
  simp only [Lit.wf, Bool.and_eq_true, decide_eq_true_eq] at hw
  have h1 : IntKind.i64.max = 9223372036854775807 := by decide
  have h2 : IntKind.i64.min = -9223372036854775808 := by decide
  omega
set_option maxRecDepth 100000 in
theorem Tryz.fieldsHeirM : ∃ f0 f1 : Field, Tryz.prog.underlying 25 = some (.struct #[f0, f1]) ∧ (f0.offset = 0 ∧ f0.type = 3) ∧ (f1.offset = 1 ∧ f1.type = 3) := ⟨_, _, Tryz.underlying25, ⟨rfl, rfl⟩, ⟨rfl, rfl⟩⟩
set_option maxRecDepth 100000 in
/-- A pair of keys that came in. -/
theorem heir_in {H : Type} {enc : TypeId × Value → H} {W : World} {r : Reach} {b0 base : Nat} {sp : Nat → Bool} {held : Bool} {v : Value} {d : DataW H} {p : List MemPlace} (hv : Value.okWide Tryz.prog W r b0 25 v) (h : DataW.Trod enc Tryz.prog W base sp held 25 v d p) :
    ∃ n0 n1 : Int, v = .agg #[.int .i64 n0, .int .i64 n1] ∧ -9223372036854775808 ≤ n0 ∧ n0 ≤ 9223372036854775807 := by
  obtain ⟨f0, f1, hs, ⟨o0, t0⟩, ⟨o1, t1⟩⟩ := Tryz.fieldsHeirM
  have hc : Tryz.prog.cellsOf 25 = 2 := by kernel_rfl
  simp only [Value.okWide, hs] at hv
  obtain ⟨cs, rfl, hn, _⟩ := hv
  rw [hc] at hn
  obtain ⟨l⟩ := cs
  match l, hn with
  | [c0, c1], _ =>
    obtain ⟨fuel, hf⟩ := h
    simp only [Value.cells] at hf
    obtain ⟨m0, _, i0⟩ := trod_field hs hf 0 f0 rfl
    obtain ⟨m1, _, i1⟩ := trod_field hs hf 1 f1 rfl
    rw [o0, t0] at i0
    rw [o1, t1] at i1
    obtain ⟨a0, e0, b1, b2⟩ := int_cellL i0
    obtain ⟨a1, e1, _⟩ := int_cellL i1
    have k1 : Tryz.prog.cellsOf 3 = 1 := by kernel_rfl
    rw [k1] at e0 e1
    simp at e0 e1
    exact ⟨a0, a1, by rw [e0, e1], b1, b2⟩
set_option maxRecDepth 100000 in
theorem lifted (os : Os) (started : os.Started) (H : Type) (enc : TypeId × Value → H) :
    ReturnsInHanded {} Tryz.checked os 3 .any (Rows.mourningMadeSpec.pre6 enc Tryz.prog Tryz.f3 Rows.mourningMadeRow.domain false) (Rows.mourningMadeSpec.post enc Tryz.prog Tryz.f3 false true false false) := by
  refine returnsInHanded_of_change (C := Tryz.checked) own started (by kernel_rfl) Tryz.func3
    (ChangeSpec.witness6 (enc := enc) (C := Tryz.checked) false ⟨#[], #[.slice none 0 0, .slice none 0 0, .agg #[.int .i64 0, .int .i64 0]], []⟩ 8 (by kernel_rfl) (by kernel_rfl) (by kernel_rfl) (by kernel_rfl)) ?_
  intro W base args ds gs before hval0 hW hcnd _
  have hval : ∀ (j : Nat) t v, Tryz.f3.params[j]? = some t → args[j]? = some v → Value.okWide Tryz.prog W .any base t v := hval0
  have hW' := hW
  obtain ⟨p, q, hA0, hV, rfl, hfz, hnd⟩ := hW
  have hA : DataW.TrodAll enc Tryz.prog W 0 (fun _ => true) true Tryz.f3.params.toList args.toList ds p := hA0
  rw [Tryz.params3] at hA hval
  obtain ⟨v0, vs0, d0, ds0, p0, q0, hargs, rfl, rfl, h0, r0⟩ := trodAll_cons hA
  obtain ⟨v1, vs1, d1, ds1, p1, q1, rfl, rfl, rfl, h1, r1⟩ := trodAll_cons r0
  obtain ⟨v2, vs2, d2, ds2, p2, q2, rfl, rfl, rfl, h2, r2⟩ := trodAll_cons r1
  obtain ⟨rfl, rfl, rfl⟩ := trodAll_nil r2
  obtain rfl : args = #[v0, v1, v2] := by cases args; simp_all
  obtain ⟨rfl, rfl⟩ := trodVars_none hV
  obtain ⟨a0, len0, cap0, rfl⟩ := okWide_slice Tryz.underlying22 (hval 0 22 v0 rfl rfl)
  have k0 := h0
  have lt0 : ∀ x ∈ p0, x.block < W.heap.size := by obtain ⟨m, hm⟩ := k0; exact DataW.trod_lt m _ _ _ hm
  obtain ⟨z0, w0⟩ : ∃ zs, IsRow .i64 W a0 len0 cap0 zs := by
    obtain ⟨fuel, hf⟩ := h0
    rcases open_ints Tryz.underlying22 Tryz.underlying3 (by kernel_rfl) hf with ⟨hcs, _⟩ | ⟨x, l, c, zs, hcs, _, hl, hm, hz, _, hcell, hwz⟩
    · simp [Value.cells] at hcs
      obtain ⟨rfl, rfl, rfl⟩ := hcs
      exact ⟨[], .inl ⟨rfl, rfl, rfl, rfl⟩⟩
    · simp [Value.cells] at hcs
      obtain ⟨rfl, rfl, rfl⟩ := hcs
      exact ⟨zs, .inr ⟨_, rfl, hl, hm, by simpa using hz, hcell, hwz⟩⟩
  obtain ⟨a1, len1, cap1, rfl⟩ := okWide_slice Tryz.underlying23 (hval 1 23 v1 rfl rfl)
  have k1 := h1
  have lt1 : ∀ x ∈ p1, x.block < W.heap.size := by obtain ⟨m, hm⟩ := k1; exact DataW.trod_lt m _ _ _ hm
  obtain ⟨l, hl, hm, w1, hLL⟩ := sts_inL h1
  have k2 := h2
  have lt2 : ∀ x ∈ p2, x.block < W.heap.size := by obtain ⟨m, hm⟩ := k2; exact DataW.trod_lt m _ _ _ hm
  obtain ⟨n0, n1, rfl, hn0⟩ := heir_in (hval 2 25 v2 rfl rfl) h2
  clear hA0 hval0
  refine (mourningMade_walk (.slice a0 len0 cap0) (.slice a1 len1 cap1) _ l n0 n1 W (ints_of_row w0).1 (ints_of_row w0).2.1 w1 (by rw [hl]; exact hm) hLL hn0).mono fun e W' ⟨he, bel⟩ => ?_
  subst he
  exact ⟨_, rfl, _, _, _, [], _, [], hW', trodAll_mk1 (shut_bool Tryz.underlying4 _), (trodAll_cons_mk (Below.trod laidOut (by kernel_rfl) (of_decide_eq_true (by kernel_rfl)) k0 bel lt0) (trodAll_cons_mk (Below.trod laidOut (by kernel_rfl) (of_decide_eq_true (by kernel_rfl)) k1 bel lt1) (trodAll_cons_mk (Below.trod laidOut (by kernel_rfl) (of_decide_eq_true (by kernel_rfl)) k2 bel lt2) trodAll_mk0))), rfl, bel.frame _, fun h => by cases h⟩

theorem over : Rows.mourningMadeRow.holds Tryz.pinned (OpenSpec.ofChange Rows.mourningMadeSpec) :=
  OpenClaim.holds_of_wide 3 Tryz.f3 rfl rfl rfl rfl rfl rfl rfl ⟨rfl, rfl, rfl, rfl, rfl⟩ rfl rfl rfl rfl rfl (by kernel_rfl) Tryz.func3 joined
    (of_decide_eq_true (by kernel_rfl)) (by unfold Func.isWrapper; first | (rw [if_pos (by decide +kernel)]; kernel_rfl) | (rw [if_neg (by decide +kernel)]; exact ⟨rfl, rfl⟩))
    (fun os started H enc _ => lifted os started H enc)

theorem proved : Rows.MourningMadeSaid := over
#print axioms proved
end Go.Proofs.YtaghfcnpnfhacaaGreat.mourningMade

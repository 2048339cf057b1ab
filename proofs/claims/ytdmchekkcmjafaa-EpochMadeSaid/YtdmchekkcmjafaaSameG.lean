/- ref03.Same: a contract, no statement of the seat. -/
import Derived.Test.YtdmchekkcmjafaaSameAG
import Derived.Test.YtdmchekkcmjafaaSameBG
import Derived.Test.YtdmchekkcmjafaaSameCG
import Derived.Test.YtdmchekkcmjafaaSameDG
namespace Go.Proofs.Ytdmchekkcmjafaa
open Go.RowKit Go.Sort

theorem sameS_no {s t : St} (h : ¬ s = t) : sameS s t = false := by
  rw [Bool.eq_false_iff]; intro h'; exact h (sameS_iff.1 h')
theorem same_any {P Q : Nat → Prop} (x y : St × Sv × Sv) (w : World) (hx : Lies P w x) (hy : Lies Q w y) (hm : x.1.list.length ≤ 9223372036854775807) (hm2 : x.1.pins.length ≤ 9223372036854775807) :
    Calls Try.prog 25 #[.agg (stE x).toArray, .agg (stE y).toArray] w fun e w' => e = .returned (.bool (sameS x.1 y.1)) ∧ Ex w.heap.size none w w' := by
  obtain ⟨s, ⟨lo, ln, lc⟩, ⟨po, pn, pc⟩⟩ := x
  obtain ⟨t, ⟨lo', ln', lc'⟩, ⟨po', pn', pc'⟩⟩ := y
  by_cases hauthor : s.author = t.author
  case neg =>
    have := same_ne_author s t lo lo' po po' ln lc ln' lc' pn pc pn' pc' w hx.1 hx.2 hy.1 hy.2 ⟨hm, hm2⟩ hauthor
    rw [sameS_no (by rintro rfl; exact hauthor rfl)]
    exact this
  by_cases hnumber : s.number = t.number
  case neg =>
    have := same_ne_number s t lo lo' po po' ln lc ln' lc' pn pc pn' pc' w hx.1 hx.2 hy.1 hy.2 ⟨hm, hm2⟩ hauthor hnumber
    rw [sameS_no (by rintro rfl; exact hnumber rfl)]
    exact this
  by_cases hprev : s.prev = t.prev
  case neg =>
    have := same_ne_prev s t lo lo' po po' ln lc ln' lc' pn pc pn' pc' w hx.1 hx.2 hy.1 hy.2 ⟨hm, hm2⟩ hauthor hnumber hprev
    rw [sameS_no (by rintro rfl; exact hprev rfl)]
    exact this
  by_cases htime : s.time = t.time
  case neg =>
    have := same_ne_time s t lo lo' po po' ln lc ln' lc' pn pc pn' pc' w hx.1 hx.2 hy.1 hy.2 ⟨hm, hm2⟩ hauthor hnumber hprev htime
    rw [sameS_no (by rintro rfl; exact htime rfl)]
    exact this
  by_cases hkind : s.kind = t.kind
  case neg =>
    have := same_ne_kind s t lo lo' po po' ln lc ln' lc' pn pc pn' pc' w hx.1 hx.2 hy.1 hy.2 ⟨hm, hm2⟩ hauthor hnumber hprev htime hkind
    rw [sameS_no (by rintro rfl; exact hkind rfl)]
    exact this
  by_cases ha : s.a = t.a
  case neg =>
    have := same_ne_a s t lo lo' po po' ln lc ln' lc' pn pc pn' pc' w hx.1 hx.2 hy.1 hy.2 ⟨hm, hm2⟩ hauthor hnumber hprev htime hkind ha
    rw [sameS_no (by rintro rfl; exact ha rfl)]
    exact this
  by_cases hb : s.b = t.b
  case neg =>
    have := same_ne_b s t lo lo' po po' ln lc ln' lc' pn pc pn' pc' w hx.1 hx.2 hy.1 hy.2 ⟨hm, hm2⟩ hauthor hnumber hprev htime hkind ha hb
    rw [sameS_no (by rintro rfl; exact hb rfl)]
    exact this
  by_cases hc : s.c = t.c
  case neg =>
    have := same_ne_c s t lo lo' po po' ln lc ln' lc' pn pc pn' pc' w hx.1 hx.2 hy.1 hy.2 ⟨hm, hm2⟩ hauthor hnumber hprev htime hkind ha hb hc
    rw [sameS_no (by rintro rfl; exact hc rfl)]
    exact this
  by_cases hlist : s.list = t.list
  case neg =>
    have := same_ne_list s t lo lo' po po' ln lc ln' lc' pn pc pn' pc' w hx.1 hx.2 hy.1 hy.2 ⟨hm, hm2⟩ hauthor hnumber hprev htime hkind ha hb hc hlist
    rw [sameS_no (by rintro rfl; exact hlist rfl)]
    exact this
  by_cases hpins : s.pins = t.pins
  case neg =>
    have := same_ne_pins s t lo lo' po po' ln lc ln' lc' pn pc pn' pc' w hx.1 hx.2 hy.1 hy.2 ⟨hm, hm2⟩ hauthor hnumber hprev htime hkind ha hb hc hlist hpins
    rw [sameS_no (by rintro rfl; exact hpins rfl)]
    exact this
  by_cases hbody : s.body = t.body
  case neg =>
    have := same_ne_body s t lo lo' po po' ln lc ln' lc' pn pc pn' pc' w hx.1 hx.2 hy.1 hy.2 ⟨hm, hm2⟩ hauthor hnumber hprev htime hkind ha hb hc hlist hpins hbody
    rw [sameS_no (by rintro rfl; exact hbody rfl)]
    exact this
  by_cases hseal : (s.key = t.key ∧ s.dig = t.dig)
  case neg =>
    have := same_ne_seal s t lo lo' po po' ln lc ln' lc' pn pc pn' pc' w hx.1 hx.2 hy.1 hy.2 ⟨hm, hm2⟩ hauthor hnumber hprev htime hkind ha hb hc hlist hpins hbody hseal
    rw [sameS_no (by rintro rfl; exact hseal ⟨rfl, rfl⟩)]
    exact this
  have := same_eq s t lo lo' po po' ln lc ln' lc' pn pc pn' pc' w hx.1 hx.2 hy.1 hy.2 ⟨hm, hm2⟩ hauthor hnumber hprev htime hkind ha hb hc hlist hpins hbody hseal
  have he : sameS s t = true := by simp [sameS, hauthor, hnumber, hprev, htime, hkind, ha, hb, hc, hlist, hpins, hbody, hseal.1, hseal.2]
  rw [he]
  exact this
end Go.Proofs.Ytdmchekkcmjafaa

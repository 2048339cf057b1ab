/- Of stores: what Add and Merge make of valid ones, in plain words. No statement of the seat. -/
import Derived.Test.YtaakacahblndcaaGreatMg12
namespace Go.Proofs.YtaakacahblndcaaGreat
open Go.RowKit Go.Sort

/-- One that is new. -/
theorem addV_new {l : List St} {x : St} {l' : List St} {u : Value} {c : Int} (hv : validB l = true) (hc : checkI x = 0) (hs : sealedB x = true) (hx : ∀ y ∈ l, cmpA y x ≠ 0) (h : AddV l x l' u c) :
    (l.length = 1000 ∧ l' = l ∧ u = .bool false ∧ c = 3) ∨ (l.length < 1000 ∧ ∃ k, l' = l.take k ++ [x] ++ l.drop k ∧ u = .bool true ∧ c = 0) := by
  obtain ⟨b, rfl, h⟩ := h
  have hl := validB_len hv
  rcases h with ⟨h, _⟩ | ⟨_, h, _⟩ | ⟨_, _, h, _⟩ | ⟨_, _, _, k, there, ⟨hk, hlo, hhi, ht⟩, h⟩
  · rw [hv] at h; cases h
  · exact absurd hc h
  · rw [hs] at h; cases h
  · have hth : there = false := by
      cases there with
      | false => rfl
      | true =>
        obtain ⟨y, hy, hyx⟩ := ht.1 rfl
        exact absurd hyx (hx y (List.mem_of_getElem? hy))
    subst hth
    have hp : putA l x k false = l.take k ++ [x] ++ l.drop k := rfl
    have hpl : (putA l x k false).length = l.length + 1 := by rw [hp]; simp; omega
    rcases h with ⟨h1, rfl, rfl, rfl⟩ | ⟨h1, rfl, rfl, rfl⟩
    · exact .inl ⟨by omega, rfl, rfl, rfl⟩
    · exact .inr ⟨by omega, k, rfl, rfl, rfl⟩
theorem validB_of {l : List St} (h1 : l.length ≤ 1000) (hm : ∀ s ∈ l, checkI s = 0 ∧ sealedB s = true) (hp : l.Pairwise fun x y => ltA x y = true) : validB l = true :=
  validB_yes h1 (goods_of hm fun j s t e1 e2 => by
    obtain ⟨k1, rfl⟩ := List.getElem?_eq_some_iff.1 e1
    obtain ⟨k2, rfl⟩ := List.getElem?_eq_some_iff.1 e2
    exact List.pairwise_iff_getElem.1 hp j (j + 1) k1 k2 (by omega))
/-- The statements of the law: author a, number i, the digest ahead. -/
def baseL (a i : Nat) (p : ByteArray) : St := ⟨a, i, p, 0, 10, 0, 0, 0, [], [], ⟨#[]⟩, 0, ⟨#[]⟩⟩
def prevL (a : Nat) : Nat → ByteArray
  | 0 => ⟨#[]⟩
  | i + 1 => sha (stB (baseL a i (prevL a i)))
def fullS (a i : Nat) : St := sealS (baseL a i (prevL a i))
def fullAt (j : Nat) : St := fullS (j / 200) (j % 200)
def fullL (n : Nat) : List St := (List.range n).map fullAt
/-- The row without one of it. -/
def gapL : List St := (fullL 1000).take 777 ++ (fullL 1000).drop (777 + 1)
end Go.Proofs.YtaakacahblndcaaGreat

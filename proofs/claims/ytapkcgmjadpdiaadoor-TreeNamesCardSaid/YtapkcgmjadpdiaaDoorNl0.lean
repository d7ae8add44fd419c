/- A tree with one segment of several names: plain. -/
import Derived.Test.YtapkcgmjadpdiaaDoorDl1
namespace Go.Proofs.YtapkcgmjadpdiaaDoor
set_option linter.unusedVariables false
set_option linter.unusedSimpArgs false
open Go.Sp
def namesC (b : Brn) (nb : Nat) (on : List ByteArray) : TreeC := ⟨on.map fun n => (((0 : Int), n), nb), [(0, (on.length : Int))], [(b.uid, nb)], 0, [(nb, ⟨b, 0, (on.length : Int)⟩)]⟩
variable {b : Brn} {nb : Nat} {on : List ByteArray} {m : ByteArray}
theorem namesC_one (hk : b.kind = 1) : (⟨[], [(0, 0)], [], 0, []⟩ : TreeC).added 0 m b nb 0 = namesC b nb [m] := by
  simp [TreeC.added, namesC, hk, alSet]
theorem namesC_some (h : m ∈ on) : (namesC b nb on).find 0 m = some nb := by
  simp only [TreeC.find, namesC]
  induction on with
  | nil => cases h
  | cons a on ih =>
    simp only [List.map_cons, alGet]
    by_cases e : a = m
    · simp [e]
    · have : ¬ ((0 : Int), a) = (0, m) := fun h => e (Prod.mk.inj h).2
      rw [if_neg this]
      exact ih (by rcases List.mem_cons.1 h with h | h; exact absurd h.symm e; exact h)
theorem namesC_no (h : m ∉ on) : (namesC b nb on).find 0 m = none := by
  simp only [TreeC.find, namesC]
  refine al_none.2 fun hm => ?_
  simp at hm
  exact h hm
theorem namesC_put : (namesC b nb on).put 0 m nb ⟨b, 0, (on.length : Int)⟩ (on.length : Int) = namesC b nb (on ++ [m]) := by
  simp [TreeC.put, namesC, alSet]
theorem namesC_in : namesIn (namesC b nb on) 0 = on := by
  simp only [namesIn, namesC]
  induction on with
  | nil => rfl
  | cons a on ih => simp at ih ⊢; exact ih
theorem namesC_gone (hk : b.kind = 1) : (namesC b nb on).gone 0 nb (on.length : Int) ⟨b, 0, (on.length : Int)⟩ = ⟨[], [(0, 0)], [], 0, [(nb, ⟨b, 0, 0⟩)]⟩ := by
  have hh : ∀ p ∈ (namesC b nb on).ents, hit 0 nb on p = true := by
    intro p hp
    simp only [namesC, List.mem_map] at hp
    obtain ⟨n, hn, rfl⟩ := hp
    simp [hit]; exact hn
  have e1 : (namesC b nb on).ents.filter (hit 0 nb on) = (namesC b nb on).ents := List.filter_eq_self.2 hh
  have e2 : ((namesC b nb on).ents.filter fun p => !hit 0 nb on p) = [] := List.filter_eq_nil_iff.2 fun p hp => by simp [hh p hp]
  simp only [TreeC.gone, TreeC.without, namesC_in, e1, e2]
  simp [namesC, hk, alSet, alDel]
end Go.Proofs.YtapkcgmjadpdiaaDoor

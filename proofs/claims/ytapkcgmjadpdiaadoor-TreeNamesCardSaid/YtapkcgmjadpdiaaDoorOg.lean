/- Arguments that came in: rows of strings. -/
import Derived.SliceStrings
import Derived.OpenShut
import Derived.Lib.SmallJoins
import Derived.Test.YtapkcgmjadpdiaaDoorSlices
namespace Go.Sp
set_option linter.unusedVariables false
set_option linter.unusedSimpArgs false
open Go.ChangeShapes Go.WideShapes Go.ChangeAt Go.RowKit
theorem addr_plain (b o j : Nat) : (⟨b, o, none⟩ : Addr).add j = ⟨b, o + j, none⟩ := by
  unfold Addr.add; by_cases hj : j = 0 <;> simp [hj]
theorem cellIn_lt {w : World} {b o : Nat} {v : Value} (h : w.cell? ⟨b, o, none⟩ = some v) : b < w.heap.size := by
  simp only [World.cell?] at h
  cases hb : w.heap[b]? with
  | none => simp [hb] at h
  | some x => exact (Array.getElem?_eq_some_iff.1 hb).1
/-- A row of strings that came in, nil or not. -/
theorem open_strs {H : Type} {P : Program} {enc : TypeId × Value → H} {W : World} {t e : TypeId} {v : Value} {d : DataW H} {p : List MemPlace} {hs : Bool} {spare : Nat → Bool} (ht : P.underlying t = some (.slice e)) (he : P.underlying e = some .string) (hc : P.cellsOf e = 1) (hv : ∃ a n c, v = .slice a n c)
    (h : DataW.Trod enc P W 0 spare hs t v d p) : ∃ a cc, ∃ l : List ByteArray, v = .slice a l.length cc ∧ l.length ≤ maxLen ∧ (0 < l.length → Reads W 1 v l.length (l.map .string)) ∧ ∀ s ∈ l, s.size ≤ maxLen := by
  obtain ⟨fuel, hf⟩ := h
  obtain ⟨a0, n0, c0, rfl⟩ := hv
  rcases open_strings ht he hc hf with ⟨hcs, hx⟩ | ⟨a, len', cap', ss, hcs, _, hl, hm, hz, hx, hcell, hsz⟩
  · simp [Value.cells] at hcs
    obtain ⟨rfl, rfl, rfl⟩ := hcs
    exact ⟨none, 0, [], rfl, Nat.zero_le _, fun h => absurd h (by simp), by simp⟩
  · simp [Value.cells] at hcs
    obtain ⟨rfl, rfl, rfl⟩ := hcs
    have hz' : n0 ≤ ss.length := by rw [hz]; split <;> omega
    have hlen : (ss.take n0).length = n0 := by simp; omega
    refine ⟨some a, c0, ss.take n0, by rw [hlen], by rw [hlen]; omega, fun h0 => ?_, fun s hs => hsz s (List.mem_of_mem_take hs)⟩
    rw [hlen] at h0 ⊢
    obtain ⟨b, off, spot⟩ := a
    have h1 := hcell 0 (by omega)
    have hspot : spot = none := by simpa [Addr.add] using World.cell?_spot h1
    subst hspot
    rw [addr_plain] at h1
    refine ⟨by rw [List.length_map, hlen, Nat.mul_one], by omega, .inr ⟨b, off, c0, rfl, cellIn_lt h1, fun j u hj => ?_⟩⟩
    have hjl : j < n0 := by
      have := (List.getElem?_eq_some_iff.1 hj).1
      simp at this; omega
    have h2 := hcell j (by omega)
    rw [addr_plain] at h2
    rw [h2, ← hj, List.getElem?_map, List.getElem?_take_of_lt hjl]
    simp [List.getD, List.getElem?_eq_getElem (show j < ss.length by omega)]
end Go.Sp

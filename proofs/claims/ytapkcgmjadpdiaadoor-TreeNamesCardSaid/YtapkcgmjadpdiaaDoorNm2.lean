/- slices.SortFunc at strings, told with owned slices. -/
import Derived.Test.YtapkcgmjadpdiaaDoorNm1
import Derived.Test.YtapkcgmjadpdiaaDoorAp
import Derived.Test.YtapkcgmjadpdiaaDoorRng
import Derived.Test.YtapkcgmjadpdiaaDoorGShelf
import Derived.Shelf.SlSortCmp.NoneTotal
namespace Go.Proofs.YtapkcgmjadpdiaaDoor
set_option linter.unusedVariables false
set_option linter.unusedSimpArgs false
open Go.RowKit Go.Maps Go.Sp Go.Sort
section
variable {w : World} {R : HProp}

theorem strs_nil {v : Value} {n : Nat} {l : List ByteArray} (h : Holds w (own 9 1 v n (l.map .string) * R)) : n = l.length := by
  rcases own_cases.1 h with ⟨_, rfl, hx, _⟩ | ⟨_, _, _, _, _, _, _, _, hx, _⟩
  · rw [List.map_eq_nil_iff.1 hx]; rfl
  · simpa using hx.symm

theorem perm_of {d d' : Array ByteArray} (h : PermIn 0 d.size d d') : d'.toList.Perm d.toList ∧ d'.size = d.size := by
  obtain ⟨h1, _, h3⟩ := h
  refine ⟨?_, h1⟩
  have e1 : d.extract 0 d.size = d := by simp
  have e2 : d'.extract 0 d.size = d' := by rw [← h1]; simp
  rwa [e1, e2] at h3

set_option maxRecDepth 100000 in
theorem sort_ok {v : Value} {l : List ByteArray} (hl : l.length < 4294967296) (h : Holds w (own 9 1 v l.length (l.map .string) * R)) :
    Calls Tryd.prog 39 #[v, .func (.func 40) #[] #[]] w fun e w' => e = .returned (.tuple #[]) ∧ ∃ l' : List ByteArray, l'.Perm l ∧ Holds w' (own 9 1 v l.length (l'.map .string) * R) := by
  have hnone : ∀ p cap, Calls Tryd.prog 39 #[.slice p 0 cap, .func (.func 40) #[] #[]] w fun e w' => e = .returned (.tuple #[]) ∧ w' = w :=
    fun p cap => AnyF.slices_SortFunc_none { Tryd.sortStr with } p cap _ w
  rcases own_cases.1 h with ⟨rfl, hn, _, _⟩ | ⟨g, cap, cur, rfl, hnc, hcm, hcs, htk, hxl, hB⟩
  · rw [hn]
    refine (hnone none 0).mono ?_
    rintro e w' ⟨rfl, rfl⟩
    exact ⟨rfl, l, List.Perm.refl _, by rw [hn] at h; exact h⟩
  · have hH : Go.Sort.Holds Value.string w g 0 l.toArray := by
      intro j hj
      have hj' : j < l.length := by simpa using hj
      refine ⟨?_, by simp [World.frozen?, hB.get]⟩
      have h1 : (cur.toList.take l.length)[j]? = (l.map Value.string)[j]? := by rw [Nat.mul_one] at htk; rw [htk]
      rw [List.getElem?_take_of_lt hj'] at h1
      simp only [World.cell?, hB.get, Nat.zero_add]
      simp only [Option.isSome_none, Bool.false_eq_true, if_false]
      rw [← Array.getElem?_toList, h1]
      simp [hj', getElem!_pos]
    have eg : ∀ args w, (callFunc 40 args).run Tryd.prog w = .ok (.enter 40 args) w := Go.Proofs.enters_of Tryd.func40 (by kernel_rfl) rfl
    have hcmp : CmpReads Tryd.prog 40 #[] Value.string cmpS g 0 l.toArray.size w := fun _ _ _ _ x y => (cmpClo_any x y _).mono fun e w' ⟨h1, h2⟩ => ⟨h1, 0, h2⟩
    have hcon := Any.slices_SortFunc Tryd.sortStr Value.string (fun _ => rfl) cmpS swo_cmpS 40 #[] g 0 cap l.toArray w eg hcmp.lays hH hB.lt (by simp; omega)
    refine Calls.mono (P := Tryd.prog) (f := 39) hcon ?_
    rintro e w' ⟨rfl, d', n, os, hp, _, rfl⟩
    obtain ⟨hp1, hp2⟩ := perm_of hp
    refine ⟨rfl, d'.toList, by simpa using hp1, ?_⟩
    have hsz : d'.size = l.length := by simpa using hp2
    have hput : Holds (putRow Value.string (Sort.ahead w n) g 0 d') (blk g (.cells (putCells Value.string 0 d' cur) 9 (0, 0)) * R) := by
      refine hB.turn rfl rfl rfl ?_ ?_
      · simp [putRow, mapBlock, Sort.ahead, Array.getElem?_modify, hB.get, onCells]
      · intro k hk _
        simp [putRow, mapBlock, Sort.ahead, Array.getElem?_modify, Ne.symm hk]
    have hgrow := hput.below (w' := grow (putRow Value.string (Sort.ahead w n) g 0 d') os) ⟨rfl, rfl, rfl, by simp [grow], fun k hk => heap_grow_old _ _ hk⟩
    refine own_cases.2 (.inr ⟨g, cap, _, rfl, hnc, hcm, by simpa [putCells] using hcs, ?_, by simpa using hsz, hgrow⟩)
    rw [Nat.mul_one]
    apply List.ext_getElem?
    intro j
    by_cases hj : j < l.length
    · have hjc : j < cur.size := by omega
      rw [List.getElem?_take_of_lt hj]
      simp [putCells, hjc, hsz, hj, getElem!_pos]
    · rw [List.getElem?_eq_none (by simp; omega), List.getElem?_eq_none (by simp; omega)]
end
end Go.Proofs.YtapkcgmjadpdiaaDoor

/- slices.Clone of an access list. -/
import Derived.Test.YtapkcgmjadpdiaaDoorTw1
import Derived.OwnWalk
import Derived.Laws.MakeOwn
namespace Go.Proofs.YtapkcgmjadpdiaaDoor
set_option linter.unusedVariables false
set_option linter.unusedSimpArgs false
open Go.RowKit Go.Maps Go.Sp

theorem infoTerm : (Tryd.prog.info? 45).map (fun i => (i.zero, i.size, i.bytes)) = some (some (.agg #[.string ⟨#[]⟩, .bool false, .bool false, .bool false]), 4, 24) := by kernel_rfl

theorem terms_one (l : List Trm) : ∀ u ∈ terms l, u.oneCell' = true := by
  intro u hu
  simp only [terms, List.mem_flatMap, Trm.cells] at hu
  obtain ⟨t, _, ht⟩ := hu
  simp at ht
  rcases ht with rfl | rfl | rfl | rfl <;> rfl

set_option maxRecDepth 100000 in
theorem cloneTerm_nil (w : World) :
    Calls Tryd.prog 36 #[.slice none 0 0] w fun e w' => e = .returned (.slice none 0 0) ∧ w = w' := by
  have he := fun w : World => Lib.run_eql_slice_nil (P := Tryd.prog) w 35 45 none 0 0 0 0 Tryd.underlying35
  go_enter Tryd.func36, Tryd.ntmps36
  go_wp2
  go_ret
  exact ⟨rfl, rfl⟩
set_option maxRecDepth 100000 in
set_option maxHeartbeats 400000 in
theorem cloneTerm_some (b o c : Nat) (l : List Trm) (w : World) (R : HProp) (hR : Holds w R) (hb : b < w.heap.size) (hc : ∀ j u, (terms l)[j]? = some u → w.cell? ⟨b, o + j, none⟩ = some u) (hn : l.length < 4294967296) :
    Calls Tryd.prog 36 #[.slice (some ⟨b, o, none⟩) l.length c] w fun e w' => ∃ v, e = .returned v ∧ Holds w' (own 45 4 v l.length (terms l) * R) ∧ Below w.heap.size w w' := by
  have he := fun w : World => Lib.run_eql_slice_nil (P := Tryd.prog) w 35 45 (some ⟨b, o, none⟩) l.length c 0 0 Tryd.underlying35
  have hA : Holds (w.alloc (.cells #[] 45)) (own 45 4 (.slice (some ⟨w.heap.size, 0, none⟩) 0 0) 0 [] * R) :=
    own_cases.2 (.inr ⟨w.heap.size, 0, #[], rfl, Nat.le_refl _, Nat.zero_le _, rfl, rfl, rfl, hR.alloc _⟩)
  have hbA : Below w.heap.size w (w.alloc (.cells #[] 45)) := (Below.refl _ _).alloc (Nat.le_refl _) _
  obtain ⟨i0, hi0, hz0, hz1, hz2⟩ := info_parts infoTerm
  by_cases h0 : l = []
  · subst h0
    simp only [List.length_nil] at he
    have hz : ∀ (w' : World) ty, (Builtin.append_ #[35, 35] ty #[.slice (some ⟨w.heap.size, 0, none⟩) 0 0, .slice (some ⟨b, o, none⟩) 0 c]).run Tryd.prog w' = .ok (.slice (some ⟨w.heap.size, 0, none⟩) 0 0) w' := fun w' ty =>
      run_append_zero _ ty _ i0 Tryd.underlying35 hi0 _ 0 0 (Nat.le_refl _) _ c w'
    go_enter Tryd.func36, Tryd.ntmps36
    go_wp2
    go_ret
    exact ⟨_, rfl, hA, hbA⟩
  have hl : 0 < l.length := List.length_pos_iff.2 h0
  have hO := hA.ownsRow
  have hcA : ∀ j u, (terms l)[j]? = some u → (w.alloc (.cells #[] 45)).cell? ((⟨b, o, none⟩ : Addr).add j) = some u := fun j u h => by
    have e : (⟨b, o, none⟩ : Addr).add j = ⟨b, o + j, none⟩ := by
      unfold Addr.add; by_cases hj : j = 0 <;> simp [hj]
    rw [e, hbA.cell (p := ⟨b, o + j, none⟩) hb]; exact hc j u h
  go_enter Tryd.func36, Tryd.ntmps36
  go_wp2_with (at_builtin; refine wpList_append_lies _ rfl _ _ 35 rfl 0 45 i0 _ 4 24 Tryd.underlying35 hi0 hz0 hz1 hz2 rfl (by decide) _ 0 [] rfl hO ⟨b, o, none⟩ l.length c (terms l) rfl (terms_len l) hcA (terms_one l) hl (by unfold maxLen; omega) (by omega) (Nat.zero_le _) _ rfl ?_; intro g cap w1 hown1 hgrow hat hlt)
  have hF := hA.appended hl hown1 hgrow hat
  have hB := hbA.grown hgrow hbA.size (fun k hk => by cases hk; exact Nat.le_refl _)
  simp only [Nat.zero_add, List.nil_append] at hF
  clear hown1 hgrow hat
  go_wp2
  go_ret
  exact ⟨_, rfl, hF, hB⟩
theorem cloneTerm_any (v : Value) (l : List Trm) (w : World) (R : HProp) (hR : Holds w R) (hr : Reads w 4 v l.length (terms l)) (hn : l.length < 4294967296) :
    Calls Tryd.prog 36 #[v] w fun e w' => ∃ v, e = .returned v ∧ Holds w' (aclH v l * R) ∧ Below w.heap.size w w' := by
  obtain ⟨_, hm, ⟨rfl, h0⟩ | ⟨b, o, c, rfl, hb, hc⟩⟩ := hr
  · have hl : l = [] := List.eq_nil_of_length_eq_zero h0
    subst hl
    exact (cloneTerm_nil w).mono fun e w' ⟨he, hw⟩ => ⟨_, he, hw ▸ own_cases.2 (.inl ⟨rfl, rfl, rfl, hR⟩), hw ▸ Below.refl _ _⟩
  · exact cloneTerm_some b o c l w R hR hb hc hn
end Go.Proofs.YtapkcgmjadpdiaaDoor

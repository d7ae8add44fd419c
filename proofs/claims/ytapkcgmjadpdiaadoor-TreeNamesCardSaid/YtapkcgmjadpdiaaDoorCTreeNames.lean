/- TreeNames: the row and its card: for every row of names and every pick the law returns true. No condition. -/
import Derived.Test.YtapkcgmjadpdiaaDoorLt2
import Derived.Test.YtapkcgmjadpdiaaDoorOg
import Derived.Test.YtapkcgmjadpdiaaDoorTie
import Derived.Test.YtapkcgmjadpdiaaDoorCards
import Derived.WalkKit
import Derived.ProofKit
import Derived.OpenShut
import Derived.ChangeOld
import Derived.Below
import Derived.SizedLaws
import Derived.LaidMore
import Derived.Lay
import Derived.SevenTiedAt
import Derived.Lib.SmallJoins
import Derived.SliceStrings
import Derived.Stop.Joined
namespace Go.Proofs.YtapkcgmjadpdiaaDoor
set_option linter.unusedVariables false
set_option linter.unusedSimpArgs false
open Go.ChangeShapes Go.WideShapes Go.ChangeAt Go.RowKit Go.Sp

theorem own' : ownKnob Tryd.prog.godebug = none := by kernel_rfl

set_option maxRecDepth 100000 in
theorem treeNames_lifted (os : Os) (started : os.Started) (H : Type) (enc : TypeId × Value → H) :
    ReturnsInHanded {} Tryd.checked os 5 .any (fun w args => (Rows.treeNamesSpec.pre enc Tryd.prog Tryd.f5 Rows.treeNamesRow.domain false w args ∧ laidMetH Tryd.prog Rows.treeNamesRow.laid w) ∧ sizedMet enc Tryd.prog Tryd.f5 (OpenSpec.ofChange Rows.treeNamesSpec) false w args)
      (Rows.treeNamesSpec.post enc Tryd.prog Tryd.f5 false true false false) := by
  refine returnsInHanded_of_change_and (C := Tryd.checked) (X := fun w _ => laidMetH Tryd.prog Rows.treeNamesRow.laid w) (fun _ _ _ hh h => h.of_heap hh) own' started (by kernel_rfl) Tryd.func5
    (ChangeSpec.witness_shaped (enc := enc) (C := Tryd.checked) (os := os) (X := fun w _ => laidMetH Tryd.prog Rows.treeNamesRow.laid w) false (World.laidAll Tryd.prog os Rows.treeNamesRow.laid) #[.slice none 0 0, .int .u8 0] 8 (World.laidAll_os _ _ _)
      (World.shaped_of_ZipB (by kernel_rfl) (by kernel_rfl)) (by kernel_rfl) (by kernel_rfl) (by kernel_rfl)
      (by rw [MakeChecks.laidMetH_plain _ _ _ (by kernel_rfl)]; exact laidMet_laidAll _ (by kernel_rfl) (by kernel_rfl))) ?_
  intro W base args ds gs before hval0 hW _ _ _ _
  have hval : ∀ (j : Nat) t v, Tryd.f5.params[j]? = some t → args[j]? = some v → Value.okWide Tryd.prog W .any base t v := hval0
  have hW' := hW
  obtain ⟨p, q, hA0, hV, rfl, _, _⟩ := hW
  have hA : DataW.TrodAll enc Tryd.prog W 0 (fun _ => true) true Tryd.f5.params.toList args.toList ds p := hA0
  rw [Tryd.params5] at hA hval
  obtain ⟨v0, v1, d0, d1, p0, p1, rfl, rfl, rfl, h0, h1⟩ := trodAll_two hA
  obtain ⟨rfl, rfl⟩ := trodVars_none hV
  obtain ⟨k, rfl, rfl, rfl, wk⟩ := open_int Tryd.underlying5 (hval 1 _ _ rfl rfl) h1
  have hk : 0 ≤ k ∧ k < 256 := by
    have h : IntKind.u8.min ≤ k ∧ k ≤ IntKind.u8.max := by simpa [Lit.wf] using wk
    have e1 : IntKind.u8.min = 0 := by decide
    have e2 : IntKind.u8.max = 255 := by decide
    omega
  obtain ⟨a, cc, l, rfl, hl, hr, hs⟩ := open_strs Tryd.underlying55 Tryd.underlying9 (by kernel_rfl) (okWide_slice Tryd.underlying55 (hval 0 _ _ rfl rfl)) h0
  refine (treeNames_ok (R := emp) ((holds_old W).to (star_emp _).symm) a cc l hr hs hl k hk).mono fun e W' ⟨he, hw⟩ => ?_
  subst he
  have bel : Below W.heap.size W W' := hw.of_old
  refine ⟨_, rfl, _, _, _, [], _, [], hW', trodAll_mk1 (shut_bool Tryd.underlying4 _), trodAll_mk2 (Below.trod laidOut (by kernel_rfl) (of_decide_eq_true (by kernel_rfl)) h0 bel (by obtain ⟨_, hf⟩ := h0; exact DataW.trod_lt _ _ _ _ hf)) (shut_int Tryd.underlying5 wk), rfl, bel.frame _, fun h => by cases h⟩

theorem treeNames_row : Rows.TreeNamesSaid :=
  OpenClaim.holds_of_wide 5 Tryd.f5 rfl rfl rfl rfl rfl rfl rfl ⟨rfl, rfl, rfl, rfl, rfl⟩ rfl rfl rfl rfl rfl (by kernel_rfl) Tryd.func5 (by kernel_rfl)
    (of_decide_eq_true (by kernel_rfl)) (by unfold Func.isWrapper; first | (rw [if_pos (by decide +kernel)]; kernel_rfl) | (rw [if_neg (by decide +kernel)]; exact ⟨rfl, rfl⟩))
    (fun os started H enc _ => treeNames_lifted os started H enc)
theorem treeNames_card : Rows.TreeNamesCardSaid :=
  Claim7.holds_tied_plain_at .later [] [.data, .pinned] true Rows.treeNamesCard.stood.harness Rows.treeNamesCard.stood.looks treeNames_row (fun _ h => by cases h) (by kernel_rfl) (fun _ h => by cases h) treeNames_row_tie rfl ⟨rfl, rfl⟩ (by kernel_rfl) rfl
    (fun f fn hf hfn => by
      obtain rfl : f = 5 := Option.some.inj ((show Tryd.prog.funcNamed "concentric/concentriclaw7.TreeNames" = some 5 by kernel_rfl).symm.trans hf) |>.symm
      obtain rfl : fn = Tryd.f5 := (Option.some.inj (Tryd.func5.symm.trans hfn)).symm
      exact ⟨by kernel_rfl, fun j t ht => by
        rw [Tryd.params5] at ht
        have hm := Array.mem_of_getElem? ht
        have hall : (Tryd.f5.params.all fun u => !Tryd.prog.wantsStandIn u) = true := by kernel_rfl
        rw [Tryd.params5] at hall
        exact (show Tryd.prog.wantsStandIn t = false by simpa using Array.all_eq_true'.1 hall t hm)⟩)
    (by kernel_rfl)
#print axioms treeNames_card
end Go.Proofs.YtapkcgmjadpdiaaDoor

/- SdwNow: the row and its card: for every access, brackets and size the law returns true. No condition. -/
import Derived.Test.YtapkcgmjadpdiaaDoorLw2
import Derived.Test.YtapkcgmjadpdiaaDoorTie
import Derived.Test.YtapkcgmjadpdiaaDoorCards
import Derived.WalkKit
import Derived.ProofKit
import Derived.OpenShut
import Derived.ChangeOld
import Derived.Below
import Derived.SizedLaws
import Derived.LaidMore
import Derived.Lay
import Derived.SevenTiedAt
import Derived.Lib.SmallJoins
import Derived.Stop.Joined
namespace Go.Proofs.YtapkcgmjadpdiaaDoor
set_option linter.unusedVariables false
set_option linter.unusedSimpArgs false
open Go.ChangeShapes Go.WideShapes Go.ChangeAt Go.RowKit Go.Sp

theorem own' : ownKnob Tryd.prog.godebug = none := by kernel_rfl

set_option maxRecDepth 100000 in
theorem sdwNow_lifted (os : Os) (started : os.Started) (H : Type) (enc : TypeId × Value → H) :
    ReturnsInHanded {} Tryd.checked os 3 .any (fun w args => (Rows.sdwNowSpec.pre enc Tryd.prog Tryd.f3 Rows.sdwNowRow.domain false w args ∧ laidMetH Tryd.prog Rows.sdwNowRow.laid w) ∧ sizedMet enc Tryd.prog Tryd.f3 (OpenSpec.ofChange Rows.sdwNowSpec) false w args)
      (Rows.sdwNowSpec.post enc Tryd.prog Tryd.f3 false true false false) := by
  refine returnsInHanded_of_change_and (C := Tryd.checked) (X := fun w _ => laidMetH Tryd.prog Rows.sdwNowRow.laid w) (fun _ _ _ hh h => h.of_heap hh) own' started (by kernel_rfl) Tryd.func3
    (ChangeSpec.witness_shaped (enc := enc) (C := Tryd.checked) (os := os) (X := fun w _ => laidMetH Tryd.prog Rows.sdwNowRow.laid w) false (World.laidAll Tryd.prog os Rows.sdwNowRow.laid) #[.agg #[.bool false, .bool false, .bool false], .agg #[.int .i64 0, .int .i64 0, .int .i64 0, .int .i64 0], .int .u8 0] 8 (World.laidAll_os _ _ _)
      (World.shaped_of_ZipB (by kernel_rfl) (by kernel_rfl)) (by kernel_rfl) (by kernel_rfl) (by kernel_rfl)
      (by rw [MakeChecks.laidMetH_plain _ _ _ (by kernel_rfl)]; exact laidMet_laidAll _ (by kernel_rfl) (by kernel_rfl))) ?_
  intro W base args ds gs before hval0 hW _ _ _ _
  have hval : ∀ (j : Nat) t v, Tryd.f3.params[j]? = some t → args[j]? = some v → Value.okWide Tryd.prog W .any base t v := hval0
  have hW' := hW
  obtain ⟨p, q, hA0, hV, rfl, _, _⟩ := hW
  have hA : DataW.TrodAll enc Tryd.prog W 0 (fun _ => true) true Tryd.f3.params.toList args.toList ds p := hA0
  rw [Tryd.params3] at hA hval
  obtain ⟨v0, v1, v2, d0, d1, d2, p0, p1, p2, rfl, rfl, rfl, h0, h1, h2⟩ := trodAll_three hA
  obtain ⟨rfl, rfl⟩ := trodVars_none hV
  obtain ⟨x0, x1, x2, y0, y1, y2, n0, rfl, rfl, rfl, t0, t1, t2⟩ := Joins.open_agg3 Tryd.underlying23 (by kernel_rfl) (by kernel_rfl) (hval 0 _ _ rfl rfl) h0
  obtain ⟨z0, z1, z2, z3, u0, u1, u2, u3, n1, rfl, rfl, rfl, s0, s1, s2, s3⟩ := Joins.open_agg4 Tryd.underlying25 (by kernel_rfl) (by kernel_rfl) (hval 1 _ _ rfl rfl) h1
  obtain ⟨k, rfl, rfl, rfl, wk⟩ := open_int Tryd.underlying5 (hval 2 _ _ rfl rfl) h2
  obtain ⟨r, e1, rfl⟩ := DataW.trod_bool Tryd.underlying4 t0; obtain rfl := (List.cons.inj e1).1
  obtain ⟨wr, e1, rfl⟩ := DataW.trod_bool Tryd.underlying4 t1; obtain rfl := (List.cons.inj e1).1
  obtain ⟨ex, e1, rfl⟩ := DataW.trod_bool Tryd.underlying4 t2; obtain rfl := (List.cons.inj e1).1
  obtain ⟨r1, e1, rfl, _⟩ := DataW.trod_int Tryd.underlying3 s0; obtain rfl := (List.cons.inj e1).1
  obtain ⟨r2, e1, rfl, _⟩ := DataW.trod_int Tryd.underlying3 s1; obtain rfl := (List.cons.inj e1).1
  obtain ⟨r3, e1, rfl, _⟩ := DataW.trod_int Tryd.underlying3 s2; obtain rfl := (List.cons.inj e1).1
  obtain ⟨g, e1, rfl, _⟩ := DataW.trod_int Tryd.underlying3 s3; obtain rfl := (List.cons.inj e1).1
  clear hA0 hval0
  have hk : 0 ≤ k ∧ k < 256 := by
    have h : IntKind.u8.min ≤ k ∧ k ≤ IntKind.u8.max := by simpa [Lit.wf] using wk
    have e1 : IntKind.u8.min = 0 := by decide
    have e2 : IntKind.u8.max = 255 := by decide
    omega
  refine (sdwNow_ok (holds_old W) ⟨r, wr, ex⟩ ⟨r1, r2, r3, g⟩ k hk).mono fun e W' ⟨he, hw⟩ => ?_
  subst he
  have bel : Below W.heap.size W W' := (hw.to (Q := old W * emp) (star_emp _).symm).of_old
  refine ⟨_, rfl, _, _, _, [], _, [], hW', trodAll_mk1 (shut_bool Tryd.underlying4 _), trodAll_mk3 (Below.trod laidOut (by kernel_rfl) (of_decide_eq_true (by kernel_rfl)) h0 bel (by simp)) (Below.trod laidOut (by kernel_rfl) (of_decide_eq_true (by kernel_rfl)) h1 bel (by simp)) (shut_int Tryd.underlying5 wk), rfl, bel.frame _, fun h => by cases h⟩

theorem sdwNow_row : Rows.SdwNowSaid :=
  OpenClaim.holds_of_wide 3 Tryd.f3 rfl rfl rfl rfl rfl rfl rfl ⟨rfl, rfl, rfl, rfl, rfl⟩ rfl rfl rfl rfl rfl (by kernel_rfl) Tryd.func3 (by kernel_rfl)
    (of_decide_eq_true (by kernel_rfl)) (by unfold Func.isWrapper; first | (rw [if_pos (by decide +kernel)]; kernel_rfl) | (rw [if_neg (by decide +kernel)]; exact ⟨rfl, rfl⟩))
    (fun os started H enc _ => sdwNow_lifted os started H enc)
theorem sdwNow_card : Rows.SdwNowCardSaid :=
  Claim7.holds_tied_plain_at .later [] [.data, .pinned] true Rows.sdwNowCard.stood.harness Rows.sdwNowCard.stood.looks sdwNow_row (fun _ h => by cases h) (by kernel_rfl) (fun _ h => by cases h) sdwNow_row_tie rfl ⟨rfl, rfl⟩ (by kernel_rfl) rfl
    (fun f fn hf hfn => by
      obtain rfl : f = 3 := Option.some.inj ((show Tryd.prog.funcNamed "concentric/concentriclaw11.SdwNow" = some 3 by kernel_rfl).symm.trans hf) |>.symm
      obtain rfl : fn = Tryd.f3 := (Option.some.inj (Tryd.func3.symm.trans hfn)).symm
      exact ⟨by kernel_rfl, fun j t ht => by
        rw [Tryd.params3] at ht
        have hm := Array.mem_of_getElem? ht
        have hall : (Tryd.f3.params.all fun u => !Tryd.prog.wantsStandIn u) = true := by kernel_rfl
        rw [Tryd.params3] at hall
        exact (show Tryd.prog.wantsStandIn t = false by simpa using Array.all_eq_true'.1 hall t hm)⟩)
    (by kernel_rfl)
#print axioms sdwNow_card
end Go.Proofs.YtapkcgmjadpdiaaDoor

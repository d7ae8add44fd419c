/- How many names a directory has. -/
import Derived.Test.YtapkcgmjadpdiaaDoorTw1
namespace Go.Proofs.YtapkcgmjadpdiaaDoor
set_option linter.unusedVariables false
set_option linter.unusedSimpArgs false
open Go.RowKit Go.Maps Go.Sp
variable {w : World} {t : Nat} {C : TreeC} {R : HProp}

theorem len_any (h : Holds w (treeH t C * R)) {d : Int} (hd : I64 d) :
    Calls Tryd.prog 21 #[.pointer (some ⟨t, 0, none⟩), .int .i64 d] w fun e w' => e = .returned (.int .i64 ((alGet C.dirs d).getD 0)) ∧ w = w' := by
  obtain ⟨rl, rd, ru, ho⟩ := holds_tree.1 h
  have h0 : TreeAt w t C R rl rd ru := ⟨ho⟩
  have c1 := h0.c1
  have hl := h0.lookD hd false
  clear ho h0 h
  simp only [Bool.false_eq_true, if_false] at hl
  go_enter Tryd.func21, Tryd.ntmps21
  go_wp2
  go_ret
  exact ⟨rfl, rfl⟩

end Go.Proofs.YtapkcgmjadpdiaaDoor

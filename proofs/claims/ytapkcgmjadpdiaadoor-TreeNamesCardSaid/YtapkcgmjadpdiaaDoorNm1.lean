/- cmp.Compare at strings. -/
import Derived.Test.YtapkcgmjadpdiaaDoorTree
import Derived.Lib.Bytealg
import Derived.Shelf.SlSortCmp.Kit1
namespace Go.Proofs.YtapkcgmjadpdiaaDoor
set_option linter.unusedVariables false
set_option linter.unusedSimpArgs false
open Go.RowKit Go.Maps Go.Sp
set_option maxRecDepth 100000 in
theorem isNaN_any (s : ByteArray) (w : World) :
    Calls Tryd.prog 52 #[.string s] w fun e w' => e = .returned (.bool false) ∧ w' = w := by
  go_enter Tryd.func52, Tryd.ntmps52
  go_wp2
  go_ret
  exact ⟨by simp, rfl⟩
def cmpS (x y : ByteArray) : Int := if Op.bytesLess x.toList y.toList = true then -1 else if (!x.toList == y.toList) = true then 1 else 0
set_option maxRecDepth 100000 in
theorem cmpStr_any (x y : ByteArray) (w : World) :
    Calls Tryd.prog 41 #[.string x, .string y] w fun e w' => e = .returned (.int .i64 (cmpS x y)) ∧ w' = w := by
  go_enter Tryd.func41, Tryd.ntmps41
  go_wp2_with fail
  refine (isNaN_any _ _).mono ?_
  rintro e w' ⟨rfl, rfl⟩
  go_wp2_with fail
  refine (isNaN_any _ _).mono ?_
  rintro e w' ⟨rfl, rfl⟩
  go_wp2
  all_goals
    go_ret
    refine ⟨?_, rfl⟩
    simp [cmpS, *]
theorem cmpClo_any (x y : ByteArray) (w : World) :
    Calls Tryd.prog 40 #[.string x, .string y] w fun e w' => e = .returned (.int .i64 (cmpS x y)) ∧ w' = w := by
  have hc := cmpStr_any x y w
  generalize cmpS x y = r at hc
  go_enter Tryd.func40, Tryd.ntmps40
  go_wp2_with fail
  refine hc.mono ?_
  rintro e w' ⟨rfl, rfl⟩
  go_wp2
  go_ret
  exact ⟨rfl, rfl⟩
theorem bytesLess_lt : ∀ x y : List UInt8, Op.bytesLess x y = decide (x < y)
  | [], [] => by simp [Op.bytesLess]
  | _ :: _, [] => by simp [Op.bytesLess]
  | [], _ :: _ => by simp [Op.bytesLess]
  | a :: x, b :: y => by
    rw [Op.bytesLess, bytesLess_lt x y]
    by_cases h : a < b <;> by_cases h2 : a = b <;> simp [h, h2, List.cons_lt_cons_iff]
theorem ltOf_cmpS (x y : ByteArray) : Go.Proofs.ltOf cmpS x y = decide (x.toList < y.toList) := by
  unfold Go.Proofs.ltOf cmpS
  rw [bytesLess_lt]
  by_cases h : x.toList < y.toList
  · simp [h]
  · by_cases h2 : x.toList = y.toList
    · rw [h2] at h ⊢; simp [List.lt_irrefl]
    · simp [h, h2]
theorem swo_cmpS : Go.Sort.SWO (Go.Proofs.ltOf cmpS) where
  irrefl x := by rw [ltOf_cmpS]; simp [List.lt_irrefl]
  trans x y z h1 h2 := by
    rw [ltOf_cmpS] at *
    simp only [decide_eq_true_eq] at *
    exact List.lt_trans h1 h2
  ntrans x y z h1 h2 := by
    rw [ltOf_cmpS] at *
    simp only [decide_eq_false_iff_not, List.not_lt] at *
    exact List.le_trans h2 h1
end Go.Proofs.YtapkcgmjadpdiaaDoor

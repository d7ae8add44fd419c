/- Access lists and brackets: what the functions answer. -/
import Derived.Test.YtapkcgmjadpdiaaDoorW1
import Derived.Test.YtapkcgmjadpdiaaDoorShelf
namespace Go.Proofs.YtapkcgmjadpdiaaDoor
set_option linter.unusedVariables false
set_option linter.unusedSimpArgs false
open Go.RowKit Go.Maps Go.Sp

theorem user_any (s : ByteArray) (w : World) (hs : s.size ≤ maxLen) :
    Calls Tryd.prog 56 #[.string s] w fun e w' => e = .returned (.bool (signsB s 16)) ∧ ∃ n, w' = w.drewN n := by
  go_enter Tryd.func56, Tryd.ntmps56
  go_wp2_with (go_at_call 46; refine (signs_any s 16 w hs (by omega)).mono ?_; rintro e w' ⟨rfl, n, rfl⟩)
  go_ret
  exact ⟨rfl, n, rfl⟩
theorem may_any (s : ByteArray) (w : World) (hs : s.size ≤ maxLen) :
    Calls Tryd.prog 28 #[.string s] w fun e w' => e = .returned (.bool (signsB s 32)) ∧ ∃ n, w' = w.drewN n := by
  go_enter Tryd.func28, Tryd.ntmps28
  go_wp2_with (go_at_call 46; refine (signs_any s 32 w hs (by omega)).mono ?_; rintro e w' ⟨rfl, n, rfl⟩)
  go_ret
  exact ⟨rfl, n, rfl⟩
theorem aclUser_any (s : ByteArray) (w : World) (hs : s.size ≤ maxLen) :
    Calls Tryd.prog 48 #[.string s] w fun e w' => e = .returned (.bool (userB s)) ∧ ∃ n, w' = w.drewN n := by
  go_enter Tryd.func48, Tryd.ntmps48
  by_cases h : s.toList = [42]
  · go_wp2
    go_ret
    exact ⟨by simp [userB, h], 0, rfl⟩
  · go_wp2_with (go_at_call 56; refine (user_any s w hs).mono ?_; rintro e w' ⟨rfl, n, rfl⟩)
    go_ret
    exact ⟨rfl, n, rfl⟩

theorem aclUser_is (s : ByteArray) (b : Bool) (w : World) (hs : s.size ≤ maxLen) (hb : userB s = b) :
    Calls Tryd.prog 48 #[.string s] w fun e w' => e = .returned (.bool b) ∧ ∃ n, w' = w.drewN n := hb ▸ aclUser_any s w hs

set_option maxRecDepth 100000 in
theorem compare_any (a b : Trm) (w : World) :
    Calls Tryd.prog 49 #[a.agg, b.agg] w fun e w' => e = .returned (.int .i64 (cmpB a.user b.user)) ∧ Below w.heap.size w w' := by
  unfold Trm.agg
  go_enter Tryd.func49, Tryd.ntmps49
  go_wp2_with (go_at_call 57; refine (Tryd.strings_Compare _ _ _).mono ?_; rintro e w' ⟨rfl, rfl⟩)
  go_ret
  exact ⟨rfl, ((Below.refl _ _).alloc (Nat.le_refl _) _).alloc (by simp) _⟩

set_option maxRecDepth 100000 in
set_option maxHeartbeats 1000000 in
theorem brk_any (b : Brk) (w : World) :
    Calls Tryd.prog 37 #[b.agg] w fun e w' => e = .returned (.bool (brkB b)) ∧ Below w.heap.size w w' := by
  unfold Brk.agg
  obtain ⟨r1, r2, r3, g⟩ := b
  by_cases c1 : 0 ≤ r1
  case neg =>
    go_enter Tryd.func37, Tryd.ntmps37
    go_wp2
    go_ret
    exact ⟨by simp [brkB]; omega, (Below.refl _ _).alloc (Nat.le_refl _) _⟩
  by_cases c2 : r1 ≤ r2
  case neg =>
    go_enter Tryd.func37, Tryd.ntmps37
    go_wp2
    go_ret
    exact ⟨by simp [brkB]; omega, (Below.refl _ _).alloc (Nat.le_refl _) _⟩
  go_enter Tryd.func37, Tryd.ntmps37
  go_wp2
  all_goals
    go_ret
    refine ⟨?_, (Below.refl _ _).alloc (Nat.le_refl _) _⟩
    first | (simp [brkB]; omega) | (simp [brkB, *]; done) | (simp [brkB, *]; omega)
end Go.Proofs.YtapkcgmjadpdiaaDoor

/- Names, users, access lists, brackets: what the functions answer. -/
import Derived.Test.YtapkcgmjadpdiaaDoorProg
import Derived.Test.YtapkcgmjadpdiaaDoorData
import Derived.WalkKit
import Derived.WalkLawsBesides
import Derived.WalkSpells
import Derived.Outline
import Derived.LoopTactic
import Derived.Deep.LoopGhost
import Derived.Deep.QuietTactic
import Derived.BigQuiet
import Derived.RegionTactic
import Derived.Lib.Hide
namespace Go.Proofs.YtapkcgmjadpdiaaDoor
set_option linter.unusedVariables false
set_option linter.unusedSimpArgs false
open Go.RowKit Go.Maps Go.Sp

theorem all_take_succ (s : ByteArray) (k : Nat) (h : k < s.size) : (s.data.toList.take (k + 1)).all okC = ((s.data.toList.take k).all okC && okC s[k]) := by
  rw [List.take_succ_eq_append_getElem (by simpa using h), List.all_append]; simp; rfl

theorem signs_no (s : ByteArray) (most k : Nat) (h : k < s.size) (hc : okC s[k] = false) : signsB s most = false := by
  have : s.data.toList.all okC = false := by
    rw [List.all_eq_false]; exact ⟨s[k], List.getElem_mem (l := s.data.toList) (n := k) (by simpa using h), by simp [hc]⟩
  simp [signsB, this]

set_option maxRecDepth 100000 in
set_option maxHeartbeats 1000000 in
theorem signs_any (s : ByteArray) (most : Nat) (w : World) (hs : s.size ≤ maxLen) (hm : most < 1000) :
    Calls Tryd.prog 46 #[.string s, .int .i64 most] w fun e w' => e = .returned (.bool (signsB s most)) ∧ ∃ n, w' = w.drewN n := by
  unfold maxLen at hs
  by_cases h1 : s.size < 1
  · go_enter Tryd.func46, Tryd.ntmps46
    go_wp2
    go_ret
    exact ⟨by simp [signsB]; omega, 0, rfl⟩
  by_cases h2 : most < s.size
  · go_enter Tryd.func46, Tryd.ntmps46
    go_wp2
    go_ret
    exact ⟨by simp [signsB]; omega, 0, rfl⟩
  have d8 : decide ((s.size : Int) < 1) = false := by simp; omega
  have d13 : decide ((most : Int) < (s.size : Int)) = false := by simp; omega
  go_enter Tryd.func46, Tryd.ntmps46
  go_wp2
  go_loopw [17] (fun i wr => ∃ k n : Nat, k ≤ s.size ∧ i = .int .i64 k ∧ (s.data.toList.take k).all okC = true ∧ wr = w.drewN n) (fun i _ => s.size - (intOf i).toNat)
  case atStart => exact ⟨0, 0, Nat.zero_le _, rfl, rfl, rfl⟩
  case round =>
    obtain ⟨k, n, hk, rfl, hall, rfl⟩ := hrel
    have HA := Lib.hid hall
    clear hall
    by_cases hlt : k < s.size
    · have HT := Lib.hid (all_take_succ s k hlt)
      have hb0 : (0 : Int) ≤ (k : Int) := Int.natCast_nonneg _
      have hb1 : (k : Int) < (s.size : Int) := by omega
      by_cases c1 : s[k].toNat < 33
      · have d1 : decide (((s[k].toNat : Nat) : Int) < 33) = true := by simp; omega
        go_wp2
        go_quiet (fail)
        go_wp2
        go_ret
        exact ⟨by rw [signs_no s most k hlt (by simp [okC]; omega)]; rfl, _, drewN_drewN _ _ _⟩
      have d1 : decide (((s[k].toNat : Nat) : Int) < 33) = false := by simp; omega
      by_cases c2 : 126 < s[k].toNat
      · have d2 : decide ((126 : Int) < ((s[k].toNat : Nat) : Int)) = true := by simp; omega
        go_wp2
        go_quiet (fail)
        go_wp2
        go_ret
        exact ⟨by rw [signs_no s most k hlt (by simp [okC]; omega)]; rfl, _, drewN_drewN _ _ _⟩
      have d2 : decide ((126 : Int) < ((s[k].toNat : Nat) : Int)) = false := by simp; omega
      by_cases c3 : s[k].toNat = 62
      · have d3 : (((s[k].toNat : Nat) : Int) == (((({ data := #[62] } : ByteArray)[0]'(by decide)).toNat : Nat) : Int)) = true := by show (((s[k].toNat : Nat) : Int) == 62) = true; simp; omega
        have C3 := Lib.hid c3
        clear c3
        go_wp2
        go_quiet (fail)
        go_wp2
        go_ret
        exact ⟨by rw [signs_no s most k hlt (by simp [okC, C3.out])]; rfl, _, drewN_drewN _ _ _⟩
      · have d3 : (((s[k].toNat : Nat) : Int) == (((({ data := #[62] } : ByteArray)[0]'(by decide)).toNat : Nat) : Int)) = false := by show (((s[k].toNat : Nat) : Int) == 62) = false; simp; omega
        go_wp2
        go_quiet (fail)
        go_wp2
        go_roundw
        case rel => exact ⟨k + 1, _, by omega, by go_num, by rw [HT.out, HA.out]; simp [okC, c3]; omega, rfl⟩
        case measure => simp [intOf]; omega
    · go_wp2
      go_ret
      have : k = s.size := by omega
      subst this
      refine ⟨?_, n, rfl⟩
      have HA' := HA.out
      rw [List.take_of_length_le (by simp)] at HA'
      simp [signsB, HA']; omega

end Go.Proofs.YtapkcgmjadpdiaaDoor

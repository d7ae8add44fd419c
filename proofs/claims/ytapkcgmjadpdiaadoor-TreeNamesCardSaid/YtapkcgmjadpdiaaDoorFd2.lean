/- acl.Find at lists that are nil or not fine. -/
import Derived.Test.YtapkcgmjadpdiaaDoorFd
namespace Go.Proofs.YtapkcgmjadpdiaaDoor
set_option linter.unusedVariables false
set_option linter.unusedSimpArgs false
open Go.RowKit Go.Maps Go.Sp Go.Proofs.YtapkcgmjadpdiaaDoorW.PrintLast

set_option maxRecDepth 100000 in
set_option maxHeartbeats 2000000 in
theorem find_nil (u : ByteArray) (w : World) :
    Calls Tryd.prog 33 #[.slice none 0 0, .string u] w fun e w' => e = .returned flg0.agg ∧ Below w.heap.size w w' := by
  have hm := fun W => aclMay_any (.slice none 0 0) [] W ⟨rfl, Nat.zero_le _, .inl ⟨rfl, rfl⟩⟩ (by simp)
  have hl : listB [] = true := rfl
  rw [hl] at hm
  have HM := Lib.hid hm
  have hBA : ∀ o1, Below w.heap.size w (w.alloc o1) := fun o1 => (Below.refl _ _).alloc (Nat.le_refl _) _
  clear hm hl
  go_enter Tryd.func33, Tryd.ntmps33
  go_wp2_with fail
  refine (HM.out _).mono ?_
  rintro e w1 ⟨rfl, hB1⟩
  have hB01 := (hBA (.cells #[.bool false, .bool false, .bool false] 23)).trans (hB1.mono (by simp))
  have hz1 : w.heap.size < w1.heap.size := by have := hB1.size; simp at this; omega
  have hH1 := ((Holds.emp w).alloc (.cells #[.bool false, .bool false, .bool false] 23)).below hB1
  have hH2 := hH1.alloc (.cells #[.string u, .string star1] 9)
  have hB2 : Below w.heap.size w (w1.alloc (.cells #[.string u, .string star1] 9)) := hB01.alloc (by omega) _
  clear hB1 hB01 hH1 hBA
  go_wp2
  go_loopw [16] (fun i wr => ∃ j : Nat, j ≤ 2 ∧ i = .int .i64 j ∧ Holds wr (blk w1.heap.size (.cells #[.string u, .string star1] 9) * (blk w.heap.size (.cells #[.bool false, .bool false, .bool false] 23) * emp)) ∧ Below w.heap.size w wr) (fun i _ => 2 - (intOf i).toNat)
  case atStart => exact ⟨0, by omega, rfl, hH2, hB2⟩
  case round =>
    clear hH2 hB2
    obtain ⟨j, hj, rfl, hH, hBw⟩ := hrel
    obtain ⟨wo, rfl⟩ : ∃ wo : World, wo = wr := ⟨_, rfl⟩
    by_cases hj2 : j < 2
    · obtain ⟨nm, hcell⟩ : ∃ nm : ByteArray, wo.cell? ⟨w1.heap.size, j, none⟩ = some (.string nm) := by
        have hk := blk_cells hH j
        match j, hj2 with
        | 0, _ => exact ⟨u, by simpa using hk⟩
        | 1, _ => exact ⟨star1, by simpa using hk⟩
      have hj0 : (0 : Int) ≤ (j : Int) := by omega
      have hj3 : (j : Int) < 2 := by omega
      have HHH := Lib.hid hH
      clear hH
      go_wp2
      refine wp_loop_rounds 1 ?_
      rw [rounds_succ]
      go_wp2
      go_roundw
      case rel => exact ⟨j + 1, by omega, by go_num, HHH.out, hBw⟩
      case measure => simp [intOf]; omega
    · have hA := hH.to (star_left_comm _ _ _)
      have hk2 := blk_cells hA
      have hq2 := blk_free hA
      have hE : Holds _ (blk w.heap.size (.cells #[.bool false, .bool false, .bool false] 23 (0, 0)) * _) := ((hA.setCell (i := 0) (.bool false)).setCell (i := 1) (.bool false)).setCell (i := 2) (.bool false)
      have HE := Lib.hid hE.get
      clear hA hE hH
      go_wp2
      exact ret_flags (f := flg0) (i := 4) rfl rfl rfl HE.out ⟨rfl, ((hBw.setCell (p := ⟨w.heap.size, 0, none⟩) (Nat.le_refl _) _).setCell (p := ⟨w.heap.size, 1, none⟩) (Nat.le_refl _) _).setCell (p := ⟨w.heap.size, 2, none⟩) (Nat.le_refl _) _⟩

set_option maxRecDepth 100000 in
theorem find_bad (v : Value) (l : List Trm) (u : ByteArray) (w : World) (hr : Reads w 4 v l.length (terms l)) (hus : ∀ t ∈ l, t.user.size ≤ maxLen) (hl : listB l = false) :
    Calls Tryd.prog 33 #[v, .string u] w fun e w' => e = .returned flg0.agg ∧ Below w.heap.size w w' := by
  have hBA : ∀ o1, Below w.heap.size w (w.alloc o1) := fun o1 => (Below.refl _ _).alloc (Nat.le_refl _) _
  have hm := aclMay_any v l _ (hr.below (hBA (.cells #[.bool false, .bool false, .bool false] 23))) hus
  rw [hl] at hm
  have HM := Lib.hid hm
  clear hm hl hr
  go_enter Tryd.func33, Tryd.ntmps33
  go_wp2_with fail
  refine HM.out.mono ?_
  rintro e w1 ⟨rfl, hB1⟩
  have hB01 := (hBA (.cells #[.bool false, .bool false, .bool false] 23)).trans (hB1.mono (by simp))
  have hH1 := ((Holds.emp w).alloc (.cells #[.bool false, .bool false, .bool false] 23)).below hB1
  have hk2 := blk_cells hH1
  have hq2 := blk_free hH1
  have hE : Holds _ (blk w.heap.size (.cells #[.bool false, .bool false, .bool false] 23 (0, 0)) * _) := ((hH1.setCell (i := 0) (.bool false)).setCell (i := 1) (.bool false)).setCell (i := 2) (.bool false)
  have HE := Lib.hid hE.get
  clear hE hH1 hB1
  go_wp2
  exact ret_flags (f := flg0) (i := 4) rfl rfl rfl HE.out ⟨rfl, ((hB01.setCell (p := ⟨w.heap.size, 0, none⟩) (Nat.le_refl _) _).setCell (p := ⟨w.heap.size, 1, none⟩) (Nat.le_refl _) _).setCell (p := ⟨w.heap.size, 2, none⟩) (Nat.le_refl _) _⟩

theorem find_any (v : Value) (l : List Trm) (u : ByteArray) (w : World) (hr : Reads w 4 v l.length (terms l)) (hus : ∀ t ∈ l, t.user.size ≤ maxLen) :
    Calls Tryd.prog 33 #[v, .string u] w fun e w' => e = .returned (flagsB l u).agg ∧ Below w.heap.size w w' := by
  by_cases hl : listB l = true
  · obtain ⟨_, hm, ⟨rfl, h0⟩ | ⟨b, o, c, hv, hb, hc⟩⟩ := hr
    · have : l = [] := List.eq_nil_of_length_eq_zero h0
      subst this
      exact find_nil u w
    · exact find_ok v l u w b o c hv hm hb hc hus hl
  · have : flagsB l u = flg0 := by simp [flagsB, hl]
    rw [this]
    exact find_bad v l u w hr hus (by simpa using hl)
end Go.Proofs.YtapkcgmjadpdiaaDoor

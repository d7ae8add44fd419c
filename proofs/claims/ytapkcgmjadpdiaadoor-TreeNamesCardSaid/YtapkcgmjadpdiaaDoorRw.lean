/- Rings: what brackets let. And a new tree. -/
import Derived.Test.YtapkcgmjadpdiaaDoorTw6
namespace Go.Proofs.YtapkcgmjadpdiaaDoor
set_option linter.unusedVariables false
set_option linter.unusedSimpArgs false
open Go.RowKit Go.Maps Go.Sp Go.Proofs.YtapkcgmjadpdiaaDoorW.PrintLast

def fineB (b : Brk) (r : Int) : Bool := brkB b && (decide (0 ≤ r) && decide (r ≤ 7))
def readE (b : Brk) (f : Flg) (r : Int) : Int := if fineB b r = false then 1 else if f.r = false then 9 else if b.r2 < r then 10 else 0
def writeE (b : Brk) (f : Flg) (r : Int) : Int := if fineB b r = false then 1 else if f.w = false then 9 else if b.r1 < r then 10 else 0
def execE (b : Brk) (f : Flg) (r : Int) : Int := if fineB b r = false then 1 else if f.e = false then 9 else if r < b.r1 ∨ b.r2 < r then 10 else 0

set_option maxRecDepth 100000 in
theorem fine_any (b : Brk) (r : Int) (w : World) :
    Calls Tryd.prog 53 #[b.agg, .int .i64 r] w fun e w' => e = .returned (.bool (fineB b r)) ∧ Below w.heap.size w w' := by
  have hb := fun w => brk_any b w
  unfold Brk.agg at hb ⊢
  by_cases h1 : brkB b = true
  case neg =>
    have h1' : brkB b = false := by simpa using h1
    have e : fineB b r = false := by simp [fineB, h1']
    rw [e]
    clear e h1
    have HB := Lib.hid hb
    clear hb
    go_enter Tryd.func53, Tryd.ntmps53
    go_wp2_with fail
    refine (HB.out _).mono ?_
    rintro e w' ⟨rfl, hB⟩
    rw [h1']
    go_wp2
    go_ret
    exact ⟨rfl, ((Below.refl _ _).alloc (Nat.le_refl _) _).trans (hB.mono (by simp))⟩
  by_cases h2 : 0 ≤ r ∧ r ≤ 7
  · have e : fineB b r = true := by simp [fineB, h1, h2]
    rw [e]
    clear e
    obtain ⟨h2, h3⟩ := h2
    have HB := Lib.hid hb
    clear hb
    go_enter Tryd.func53, Tryd.ntmps53
    go_wp2_with fail
    refine (HB.out _).mono ?_
    rintro e w' ⟨rfl, hB⟩
    rw [h1]
    go_wp2
    go_ret
    exact ⟨rfl, ((Below.refl _ _).alloc (Nat.le_refl _) _).trans (hB.mono (by simp))⟩
  · have e : fineB b r = false := by simp [fineB]; omega
    rw [e]
    clear e
    have HB := Lib.hid hb
    clear hb
    by_cases h3 : 0 ≤ r
    · have h4 : decide (r ≤ 7) = false := by simp; omega
      have h5 : decide ((0 : Int) ≤ r) = true := by simpa using h3
      clear h2
      go_enter Tryd.func53, Tryd.ntmps53
      go_wp2_with fail
      refine (HB.out _).mono ?_
      rintro e w' ⟨rfl, hB⟩
      rw [h1]
      go_wp2
      go_ret
      exact ⟨rfl, ((Below.refl _ _).alloc (Nat.le_refl _) _).trans (hB.mono (by simp))⟩
    · have h5 : decide ((0 : Int) ≤ r) = false := by simpa using h3
      clear h2
      go_enter Tryd.func53, Tryd.ntmps53
      go_wp2_with fail
      refine (HB.out _).mono ?_
      rintro e w' ⟨rfl, hB⟩
      rw [h1]
      go_wp2
      go_ret
      exact ⟨rfl, ((Below.refl _ _).alloc (Nat.le_refl _) _).trans (hB.mono (by simp))⟩

set_option maxRecDepth 100000 in
set_option maxHeartbeats 1000000 in
theorem rread_any (b : Brk) (f : Flg) (r : Int) (w : World) :
    Calls Tryd.prog 45 #[b.agg, f.agg, .int .i64 r] w fun e w' => e = .returned (.int .i64 (readE b f r)) ∧ Below w.heap.size w w' := by
  have hb := fun w => fine_any b r w
  obtain ⟨r1, r2, r3, g⟩ := b
  obtain ⟨fr, fw, fe⟩ := f
  unfold Brk.agg at hb ⊢
  unfold Flg.agg
  simp only at hb ⊢
  generalize hfn : fineB ⟨r1, r2, r3, g⟩ r = fn at hb
  have HE := Lib.hid (show readE ⟨r1, r2, r3, g⟩ ⟨fr, fw, fe⟩ r = if fn = false then 1 else if fr = false then 9 else if r2 < r then 10 else 0 by simp [readE, hfn])
  have HB := Lib.hid hb
  have hB0 : ∀ o1 o2, Below w.heap.size w ((w.alloc o1).alloc o2) := fun o1 o2 => ((Below.refl _ _).alloc (Nat.le_refl _) _).alloc (by simp) _
  clear hb hfn
  cases fn
  · go_enter Tryd.func45, Tryd.ntmps45
    go_wp2_with fail
    refine (HB.out _).mono ?_
    rintro e w1 ⟨rfl, hB⟩
    go_wp2
    go_ret
    exact ⟨by rw [HE.out]; rfl, (hB0 _ _).trans (hB.mono (hB0 _ _).size)⟩
  cases fr
  · go_enter Tryd.func45, Tryd.ntmps45
    go_wp2_with fail
    refine (HB.out _).mono ?_
    rintro e w1 ⟨rfl, hB⟩
    obtain ⟨hc, hf⟩ := bcell hB
    go_wp2
    go_ret
    exact ⟨by rw [HE.out]; rfl, (hB0 _ _).trans (hB.mono (hB0 _ _).size)⟩
  by_cases hr : r2 < r
  · go_enter Tryd.func45, Tryd.ntmps45
    go_wp2_with fail
    refine (HB.out _).mono ?_
    rintro e w1 ⟨rfl, hB⟩
    obtain ⟨hc, hf⟩ := bcell hB
    go_wp2
    go_ret
    exact ⟨by rw [HE.out]; simp [hr], (hB0 _ _).trans (hB.mono (hB0 _ _).size)⟩
  · go_enter Tryd.func45, Tryd.ntmps45
    go_wp2_with fail
    refine (HB.out _).mono ?_
    rintro e w1 ⟨rfl, hB⟩
    obtain ⟨hc, hf⟩ := bcell hB
    go_wp2
    go_ret
    exact ⟨by rw [HE.out]; simp [hr], (hB0 _ _).trans (hB.mono (hB0 _ _).size)⟩

set_option maxRecDepth 100000 in
theorem tnew_any {w : World} {R : HProp} (hR : Holds w R) :
    Calls Tryd.prog 7 #[] w fun e w' => ∃ t, e = .returned (.pointer (some ⟨t, 0, none⟩)) ∧ Holds w' (treeH t ⟨[], [(0, 0)], [], 0, []⟩ * R) := by
  have hmm := @run_makeMap Tryd.prog
  have h1 := holds_mp_made (P := Tryd.prog) (k := 92) hR
  have h2 := holds_mp_made (P := Tryd.prog) (k := 3) h1
  obtain ⟨W, r, h3, hsz⟩ := run_update_new (t := 67) (v := intV 0) (key := intV 0) intLaw Tryd.underlying67 h2 (okInt (I64.of (by omega))) (by simp)
  have r' : (Instr.mapUpdate 67 (.map (some (w.heap.size + 1))) (.int .i64 0) (.int .i64 0)).run Tryd.prog ((w.alloc (.map #[] 0)).alloc (.map #[] 0)) = .ok () W := by
    have e : (w.alloc (Obj.map #[] 0)).heap.size = w.heap.size + 1 := by simp
    rw [e] at r; exact r
  have hs1 : W.heap.size = w.heap.size + 2 := by rw [hsz]; simp
  have h4 := holds_mp_made (P := Tryd.prog) (k := 3) h3
  rw [hs1] at h4
  have h5 := h4.alloc (.cells (rootCells w.heap.size (w.heap.size + 1) (w.heap.size + 2) 0) 70)
  have HF := Lib.hid h5
  have HS := Lib.hid hs1
  clear h1 h2 h3 h4 h5 r hsz
  go_enter Tryd.func7, Tryd.ntmps7
  go_wp2
  go_ret
  have e1 : (w.alloc (Obj.map #[] 0)).heap.size = w.heap.size + 1 := by simp
  have e2 : (W.alloc (Obj.map #[] 0)).heap.size = w.heap.size + 3 := by simp [HS.out]
  have hF := HF.out
  rw [e1, e2] at hF
  refine ⟨w.heap.size + 3, rfl, (holds_tree (t := w.heap.size + 3) (C := ⟨[], [(0, 0)], [], 0, []⟩) (R := R)).2 ⟨w.heap.size, w.heap.size + 1, w.heap.size + 2, hF.to ?_⟩⟩
  simp only [mpL, mpD, mpU, bigS, List.map_nil, List.map_cons, List.nil_append, emp_star]
  ac_rfl
end Go.Proofs.YtapkcgmjadpdiaaDoor

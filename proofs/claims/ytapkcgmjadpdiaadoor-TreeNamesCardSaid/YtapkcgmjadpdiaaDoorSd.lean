/- Descriptors: the checks of an access. -/
import Derived.Test.YtapkcgmjadpdiaaDoorRw
namespace Go.Proofs.YtapkcgmjadpdiaaDoor
set_option linter.unusedVariables false
set_option linter.unusedSimpArgs false
open Go.RowKit Go.Maps Go.Sp Go.Proofs.YtapkcgmjadpdiaaDoorW.PrintLast

set_option maxRecDepth 100000 in
set_option maxHeartbeats 1000000 in
theorem ringMay_any (b : Brk) (w : World) :
    Calls Tryd.prog 11 #[b.agg] w fun e w' => e = .returned (.bool (brkB b)) ∧ Below w.heap.size w w' := by
  unfold Brk.agg
  obtain ⟨r1, r2, r3, g⟩ := b
  by_cases c1 : 0 ≤ r1
  case neg =>
    go_enter Tryd.func11, Tryd.ntmps11
    go_wp2
    go_ret
    exact ⟨by simp [brkB]; omega, (Below.refl _ _).alloc (Nat.le_refl _) _⟩
  by_cases c2 : r1 ≤ r2
  case neg =>
    go_enter Tryd.func11, Tryd.ntmps11
    go_wp2
    go_ret
    exact ⟨by simp [brkB]; omega, (Below.refl _ _).alloc (Nat.le_refl _) _⟩
  go_enter Tryd.func11, Tryd.ntmps11
  go_wp2
  all_goals
    go_ret
    refine ⟨?_, (Below.refl _ _).alloc (Nat.le_refl _) _⟩
    first | (simp [brkB]; omega) | (simp [brkB, *]; done) | (simp [brkB, *]; omega)

structure SdwS where
  uid : Int
  size : Int
  f : Flg
  b : Brk
def SdwS.agg (x : SdwS) : Value := .agg #[.int .i64 x.uid, .int .i64 x.size, .bool x.f.r, .bool x.f.w, .bool x.f.e, .int .i64 x.b.r1, .int .i64 x.b.r2, .int .i64 x.b.r3, .int .i64 x.b.gates]
def inE (size e off : Int) : Int := if e = 0 ∧ (off < 0 ∨ size ≤ off) then 8 else e

set_option maxRecDepth 100000 in
set_option maxHeartbeats 1000000 in
theorem in_any (x : SdwS) (er off : Int) (w : World) :
    Calls Tryd.prog 44 #[x.agg, .int .i64 er, .int .i64 off] w fun e w' => e = .returned (.int .i64 (inE x.size er off)) ∧ Below w.heap.size w w' := by
  unfold SdwS.agg
  obtain ⟨u, sz, f, b⟩ := x
  simp only
  have hB0 : ∀ o1, Below w.heap.size w (w.alloc o1) := fun o1 => (Below.refl _ _).alloc (Nat.le_refl _) _
  by_cases he : er = 0
  · subst he
    by_cases h1 : off < 0
    · have h1' : decide (off < 0) = true := by simpa using h1
      have e : inE sz 0 off = 8 := by simp [inE, h1]
      rw [e]; clear e
      go_enter Tryd.func44, Tryd.ntmps44
      go_wp2
      go_ret
      exact ⟨rfl, hB0 _⟩
    · have h1' : decide (off < 0) = false := by simpa using h1
      by_cases h2 : sz ≤ off
      · have e : inE sz 0 off = 8 := by simp [inE, h2]
        rw [e]; clear e
        go_enter Tryd.func44, Tryd.ntmps44
        go_wp2
        go_ret
        exact ⟨rfl, hB0 _⟩
      · have e : inE sz 0 off = 0 := by simp [inE, h1, h2]
        rw [e]; clear e
        go_enter Tryd.func44, Tryd.ntmps44
        go_wp2
        go_ret
        exact ⟨rfl, hB0 _⟩
  · have he' : (er == 0) = false := by simpa using he
    have e : inE sz er off = er := by simp [inE, he]
    rw [e]; clear e
    go_enter Tryd.func44, Tryd.ntmps44
    go_wp2
    go_ret
    exact ⟨rfl, hB0 _⟩

set_option maxRecDepth 100000 in
set_option maxHeartbeats 1000000 in
theorem sread_any (x : SdwS) (r off : Int) (w : World) :
    Calls Tryd.prog 24 #[x.agg, .int .i64 r, .int .i64 off] w fun e w' => e = .returned (.int .i64 (inE x.size (readE x.b x.f r) off)) ∧ Below w.heap.size w w' := by
  have hB0 : ∀ o1, Below w.heap.size w (w.alloc o1) := fun o1 => (Below.refl _ _).alloc (Nat.le_refl _) _
  have hr := fun w => rread_any x.b x.f r w
  have hi := fun e w => in_any x e off w
  unfold SdwS.agg at hi ⊢
  unfold Brk.agg Flg.agg at hr
  generalize readE x.b x.f r = er at hr
  have HR := Lib.hid hr
  have HI := Lib.hid hi
  clear hr hi
  go_enter Tryd.func24, Tryd.ntmps24
  go_wp2
  refine start_ (n := 10) (S := fun w' => w'.cell? ⟨w.heap.size, 0, none⟩ = some (.int .i64 x.uid) ∧ w'.cell? ⟨w.heap.size, 1, none⟩ = some (.int .i64 x.size) ∧ w'.cell? ⟨w.heap.size, 2, none⟩ = some (.bool x.f.r) ∧ w'.cell? ⟨w.heap.size, 3, none⟩ = some (.bool x.f.w) ∧ w'.cell? ⟨w.heap.size, 4, none⟩ = some (.bool x.f.e) ∧ w'.cell? ⟨w.heap.size, 5, none⟩ = some (.int .i64 x.b.r1) ∧ w'.cell? ⟨w.heap.size, 6, none⟩ = some (.int .i64 x.b.r2) ∧ w'.cell? ⟨w.heap.size, 7, none⟩ = some (.int .i64 x.b.r3) ∧ w'.cell? ⟨w.heap.size, 8, none⟩ = some (.int .i64 x.b.gates)) (ds := [8]) #[false, false, false, false, false, false, false, false, false, false] (by kernel_rfl) rfl rfl ⟨(by go_simp), (by go_simp), (by go_simp), (by go_simp), (by go_simp), (by go_simp), (by go_simp), (by go_simp), (by go_simp)⟩ (fun hHeld => ?_)
  refine pure_ (i := 1) (N := some 8) (v := ?_) (a' := ?_) #[false, true, false, false, false, false, false, false, false, false] rfl rfl (by kernel_rfl) (fun _ _ _ h => h) (Or.inl ⟨by rfl, ?_⟩) ?_ ?_
  rotate_left
  · intro w'
    go_simp
    with_reducible rfl
  rotate_left
  · simp only [Act.put, List.setIfInBounds_toArray, List.set_cons_zero, List.set_cons_succ, i64_w, i32_w]
    rfl
  refine pure_ (i := 3) (N := some 10) (v := ?_) (a' := ?_) #[false, true, false, true, false, false, false, false, false, false] rfl rfl (by kernel_rfl) (fun _ _ _ h => h) (Or.inl ⟨by rfl, ?_⟩) ?_ ?_
  rotate_left
  · intro w'
    go_simp
    with_reducible rfl
  rotate_left
  · simp only [Act.put, List.setIfInBounds_toArray, List.set_cons_zero, List.set_cons_succ, i64_w, i32_w]
    rfl
  refine pure_ (i := 5) (N := some 12) (v := ?_) (a' := ?_) #[false, true, false, true, false, true, false, false, false, false] rfl rfl (by kernel_rfl) (fun _ _ _ h => h) (Or.inl ⟨by rfl, ?_⟩) ?_ ?_
  rotate_left
  · intro w'
    go_simp
    with_reducible rfl
  rotate_left
  · simp only [Act.put, List.setIfInBounds_toArray, List.set_cons_zero, List.set_cons_succ, i64_w, i32_w]
    rfl
  refine pure_ (i := 7) (N := some 14) (v := ?_) (a' := ?_) #[false, true, false, true, false, true, false, true, false, false] rfl rfl (by kernel_rfl) (fun _ _ _ h => h) (Or.inl ⟨by rfl, ?_⟩) ?_ ?_
  rotate_left
  · intro w'
    go_simp
    with_reducible rfl
  rotate_left
  · simp only [Act.put, List.setIfInBounds_toArray, List.set_cons_zero, List.set_cons_succ, i64_w, i32_w]
    rfl
  refine take_ (i := 0) (N := some 7) (v := ?_) (a' := ?_) #[true, true, false, true, false, true, false, true, false, false] rfl rfl (by kernel_rfl) (fun _ _ _ h => h) (Or.inl ⟨by rfl, ?_⟩) hHeld ?_ ?_
  rotate_left
  · rintro w' ⟨s0, s1, s2, s3, s4, s5, s6, s7, s8⟩
    go_simp
    with_reducible rfl
  rotate_left
  · simp only [Act.put, List.setIfInBounds_toArray, List.set_cons_zero, List.set_cons_succ, i64_w, i32_w]
    rfl
  refine take_ (i := 2) (N := some 9) (v := ?_) (a' := ?_) #[true, true, true, true, false, true, false, true, false, false] rfl rfl (by kernel_rfl) (fun _ _ _ h => h) (Or.inl ⟨by rfl, ?_⟩) hHeld ?_ ?_
  rotate_left
  · rintro w' ⟨s0, s1, s2, s3, s4, s5, s6, s7, s8⟩
    go_simp
    with_reducible rfl
  rotate_left
  · simp only [Act.put, List.setIfInBounds_toArray, List.set_cons_zero, List.set_cons_succ, i64_w, i32_w]
    rfl
  refine take_ (i := 4) (N := some 11) (v := ?_) (a' := ?_) #[true, true, true, true, true, true, false, true, false, false] rfl rfl (by kernel_rfl) (fun _ _ _ h => h) (Or.inl ⟨by rfl, ?_⟩) hHeld ?_ ?_
  rotate_left
  · rintro w' ⟨s0, s1, s2, s3, s4, s5, s6, s7, s8⟩
    go_simp
    with_reducible rfl
  rotate_left
  · simp only [Act.put, List.setIfInBounds_toArray, List.set_cons_zero, List.set_cons_succ, i64_w, i32_w]
    rfl
  refine one_ (i := 6) (N := some 13) #[true, true, true, true, true, true, true, true, false, false] rfl rfl (by kernel_rfl) (by decide) (fun K hK => ?_)
  refine goes_ Tryd.func45 (by kernel_rfl) rfl #[.agg #[.int .i64 x.b.r1, .int .i64 x.b.r2, .int .i64 x.b.r3, .int .i64 x.b.gates], .agg #[.bool x.f.r, .bool x.f.w, .bool x.f.e], .int .i64 r] (by rfl) rfl rfl (by simp only [List.map_toArray, List.map_cons, List.map_nil]; rfl) ?_
  with_reducible refine (HR.out _).mono ?_
  rintro e w3 ⟨rfl, hb3⟩
  refine ⟨_, rfl, ?_⟩
  have hlt : w.heap.size < (w.alloc (Obj.cells #[.int .i64 x.uid, .int .i64 x.size, .bool x.f.r, .bool x.f.w, .bool x.f.e, .int .i64 x.b.r1, .int .i64 x.b.r2, .int .i64 x.b.r3, .int .i64 x.b.gates] 40)).drew.heap.size := by simp
  refine hK.out _ _ ⟨((hb3.cell (p := ⟨w.heap.size, 0, none⟩) hlt).trans (by go_simp)), ((hb3.cell (p := ⟨w.heap.size, 1, none⟩) hlt).trans (by go_simp)), ((hb3.cell (p := ⟨w.heap.size, 2, none⟩) hlt).trans (by go_simp)), ((hb3.cell (p := ⟨w.heap.size, 3, none⟩) hlt).trans (by go_simp)), ((hb3.cell (p := ⟨w.heap.size, 4, none⟩) hlt).trans (by go_simp)), ((hb3.cell (p := ⟨w.heap.size, 5, none⟩) hlt).trans (by go_simp)), ((hb3.cell (p := ⟨w.heap.size, 6, none⟩) hlt).trans (by go_simp)), ((hb3.cell (p := ⟨w.heap.size, 7, none⟩) hlt).trans (by go_simp)), ((hb3.cell (p := ⟨w.heap.size, 8, none⟩) hlt).trans (by go_simp))⟩ (fun hHeld => ?_)
  clear hK K
  refine norm_ (a' := ?_) ?_ ?_
  rotate_left
  · show Act.put _ (some 13) _ = _
    simp only [Act.put, List.setIfInBounds_toArray, List.set_cons_zero, List.set_cons_succ, i64_w, i32_w]
    rfl
  refine last_ (i := 8) (N := some 15) #[true, true, true, true, true, true, true, true, true, false] rfl rfl (by kernel_rfl) (by decide) (fun K hK => ?_)
  refine goes_ Tryd.func44 (by kernel_rfl) rfl #[.agg #[.int .i64 x.uid, .int .i64 x.size, .bool x.f.r, .bool x.f.w, .bool x.f.e, .int .i64 x.b.r1, .int .i64 x.b.r2, .int .i64 x.b.r3, .int .i64 x.b.gates], .int .i64 er, .int .i64 off] (by rfl) rfl rfl (by simp only [List.map_toArray, List.map_cons, List.map_nil]; rfl) ?_
  with_reducible refine (HI.out _ _).mono ?_
  rintro e w4 ⟨rfl, hb4⟩
  refine ⟨_, rfl, ?_⟩
  refine hK.out _ _ ?_
  clear hK K
  refine norm_ (a' := ?_) ?_ ?_
  rotate_left
  · show Act.put _ (some 15) _ = _
    simp only [Act.put, List.setIfInBounds_toArray, List.set_cons_zero, List.set_cons_succ, i64_w, i32_w]
    rfl
  refine pure_ (i := 9) (N := some 6) (v := ?_) (a' := ?_) #[true, true, true, true, true, true, true, true, true, true] rfl rfl (by kernel_rfl) (fun _ _ _ h => h) (Or.inl ⟨by rfl, ?_⟩) ?_ ?_
  rotate_left
  · intro w'
    go_simp
    with_reducible rfl
  rotate_left
  · simp only [Act.put, List.setIfInBounds_toArray, List.set_cons_zero, List.set_cons_succ, i64_w, i32_w]
    rfl
  refine done_ (by kernel_rfl) ?_

  go_wp2
  go_ret
  exact ⟨rfl, ((hB0 _).drew.trans (hb3.mono (by simp))).trans (hb4.mono (Nat.le_trans (Nat.le_of_lt hlt) hb3.size))⟩
end Go.Proofs.YtapkcgmjadpdiaaDoor

/- What of a branch is kept: segments and directories. -/
import Derived.Test.YtapkcgmjadpdiaaDoorTw3
namespace Go.Proofs.YtapkcgmjadpdiaaDoor
set_option linter.unusedVariables false
set_option linter.unusedSimpArgs false
open Go.RowKit Go.Maps Go.Sp Go.Proofs.YtapkcgmjadpdiaaDoorW.PrintLast

def brn0 : Brn := ⟨0, 0, 0, ⟨#[]⟩, false, [], ⟨0, 0, 0, 0⟩⟩
def segOf (b : Brn) : Brn := ⟨1, b.uid, 0, ⟨#[]⟩, b.obj, b.acl, b.b⟩
def dirOf (n : Int) : Brn := ⟨2, 0, n, ⟨#[]⟩, false, [], ⟨0, 0, 0, 0⟩⟩
def linkOf (s : ByteArray) : Brn := ⟨3, 0, 0, s, false, [], ⟨0, 0, 0, 0⟩⟩

section
variable {w : World} {t : Nat} {C : TreeC} {R : HProp}

set_option maxRecDepth 100000 in
set_option maxHeartbeats 1000000 in
theorem clean_dir (h : Holds w (treeH t C * R)) (b : Brn) (av : Value) (hk : b.kind = 2) (hn : 0 ≤ C.next ∧ C.next < 4294967296) :
    Calls Tryd.prog 30 #[.pointer (some ⟨t, 0, none⟩), b.agg av] w fun e w' => ∃ v, e = .returned (.tuple #[(dirOf (C.next + 1)).agg v, .int .i64 0]) ∧ Holds w' (aclH v [] * (treeH t C * R)) ∧ Below w.heap.size w w' := by
  obtain ⟨k, u, d, l, ob, ac, br⟩ := b
  simp only at hk
  subst hk
  obtain ⟨rl, rd, ru, ho⟩ := holds_tree.1 h
  have c3 := TreeAt.c3 ⟨ho⟩
  have hlt := ho.lt
  clear ho
  unfold Brn.agg
  have hA := (h.alloc (.cells #[.int .i64 2, .int .i64 u, .int .i64 d, .string l, .bool ob, av, .int .i64 br.r1, .int .i64 br.r2, .int .i64 br.r3, .int .i64 br.gates] 37)).alloc (.cells #[.int .i64 2, .int .i64 0, .int .i64 (C.next + 1), .string ⟨#[]⟩, .bool false, .slice none 0 0, .int .i64 0, .int .i64 0, .int .i64 0, .int .i64 0] 37)
  have HG := Lib.hid hA.get
  have HR := Lib.hid hA.right.right
  clear hA h
  go_enter Tryd.func30, Tryd.ntmps30
  go_wp2
  refine ret_branch (b := dirOf (C.next + 1)) (v := .slice none 0 0) (i := 4) (j := 5) rfl rfl rfl rfl (fz := (0, 0)) ?_ ⟨_, rfl, ?_, ?_⟩
  · have := HG.out
    simpa [brnCells, dirOf] using this
  · exact own_cases.2 (.inl ⟨rfl, rfl, rfl, HR.out⟩)
  · exact ((Below.refl _ _).alloc (Nat.le_refl _) _).alloc (by simp) _

set_option maxRecDepth 100000 in
set_option maxHeartbeats 2000000 in
theorem clean_seg (h : Holds w (treeH t C * R)) (b : Brn) (aa : Option Addr) (cc : Nat) (hk : b.kind = 1) (hu : 1 ≤ b.uid ∧ b.uid ≤ 9223372036854775807) (hl : listB b.acl = true) (hb : brkB b.b = true) (hf : alGet C.uids b.uid = none)
    (hr : Reads w 4 (.slice aa b.acl.length cc) b.acl.length (terms b.acl)) (hus : ∀ t ∈ b.acl, t.user.size ≤ maxLen) (hn : b.acl.length < 4294967296) :
    Calls Tryd.prog 30 #[.pointer (some ⟨t, 0, none⟩), b.agg (.slice aa b.acl.length cc)] w fun e w' => ∃ v, e = .returned (.tuple #[(segOf b).agg v, .int .i64 0]) ∧ Holds w' (aclH v b.acl * (treeH t C * R)) ∧ Below w.heap.size w w' := by
  obtain ⟨k, u, d, l, ob, ac, br⟩ := b
  simp only at hk hu hl hb hf hr hus hn
  subst hk
  unfold Brn.agg
  have hA := (h.alloc (.cells #[.int .i64 1, .int .i64 u, .int .i64 d, .string l, .bool ob, .slice aa ac.length cc, .int .i64 br.r1, .int .i64 br.r2, .int .i64 br.r3, .int .i64 br.gates] 37)).alloc (.cells #[.int .i64 0, .int .i64 0, .int .i64 0, .string ⟨#[]⟩, .bool false, .slice none 0 0, .int .i64 0, .int .i64 0, .int .i64 0, .int .i64 0] 37)
  have hBA : Below w.heap.size w ((w.alloc (.cells #[.int .i64 1, .int .i64 u, .int .i64 d, .string l, .bool ob, .slice aa ac.length cc, .int .i64 br.r1, .int .i64 br.r2, .int .i64 br.r3, .int .i64 br.gates] 37)).alloc (.cells #[.int .i64 0, .int .i64 0, .int .i64 0, .string ⟨#[]⟩, .bool false, .slice none 0 0, .int .i64 0, .int .i64 0, .int .i64 0, .int .i64 0] 37)) :=
    ((Below.refl _ _).alloc (Nat.le_refl _) _).alloc (by simp) _
  obtain ⟨u1, u2⟩ := hu
  have hu0 : decide (u < 1) = false := by simp; omega
  have HN := Lib.hid hn
  clear hn
  go_enter Tryd.func30, Tryd.ntmps30
  go_wp2_with fail
  refine (aclMay_any _ ac _ (hr.below hBA) hus).mono ?_
  rintro e w1 ⟨rfl, hB1⟩
  rw [hl]
  obtain ⟨hc1, hf1⟩ := bcell hB1
  have hz1 : w.heap.size + 2 ≤ w1.heap.size := by have := hB1.size; simpa using this
  go_wp2_with fail
  refine (brk_any br _).mono ?_
  rintro e w2 ⟨rfl, hB2⟩
  rw [hb]
  obtain ⟨hc2, hf2⟩ := bcell hB2
  have hz2 : w.heap.size + 2 ≤ w2.heap.size := Nat.le_trans hz1 hB2.size
  have hB02 : Below w.heap.size w w2 := (hBA.trans (hB1.mono hBA.size)).trans (hB2.mono (Nat.le_trans hBA.size hB1.size))
  have hH2 := (hA.below hB1).below hB2
  have hT2 := hH2.right.right
  obtain ⟨rl, rd, ru, ho⟩ := holds_tree.1 hT2
  have c2 : w2.cell? ⟨t, 2, none⟩ = some (.map (some ru)) := TreeAt.c2 ⟨ho⟩
  have l2 : ∀ n, (Instr.lookup 68 (.map (some ru)) (.int .i64 u) false).run Tryd.prog (w2.drewN n) = .ok (optP (alGet C.uids u)) (w2.drewN n) := fun n =>
    TreeAt.lookU (C := C) (R := R) (rl := rl) (rd := rd) (t := t) ⟨ho.drewN n⟩ (I64.of (by omega))
  have l2' : (Instr.lookup 68 (.map (some ru)) (.int .i64 u) false).run Tryd.prog w2.drew = .ok (optP (alGet C.uids u)) w2.drew := l2 1
  rw [hf] at l2 l2'
  simp only [optP] at l2 l2'
  have hA2 : w.heap.size < w2.heap.size := by omega
  have hBx : Holds w2 (blk w.heap.size (.cells #[.int .i64 1, .int .i64 u, .int .i64 d, .string l, .bool ob, .slice aa ac.length cc, .int .i64 br.r1, .int .i64 br.r2, .int .i64 br.r3, .int .i64 br.gates] 37 (0, 0)) * (blk (w.heap.size + 1) (.cells #[.int .i64 0, .int .i64 0, .int .i64 0, .string ⟨#[]⟩, .bool false, .slice none 0 0, .int .i64 0, .int .i64 0, .int .i64 0, .int .i64 0] 37 (0, 0)) * (treeH t C * R))) := by
    have := hH2.to (star_left_comm _ _ _)
    simpa using this
  have bx := blk_cells hBx
  have b1 := bx 1
  have b4 := bx 4
  have b5 := bx 5
  have b6 := bx 6
  have b7 := bx 7
  have b8 := bx 8
  have b9 := bx 9
  simp at b1 b4 b5 b6 b7 b8 b9
  clear ho bx hH2 hA hT2
  go_wp2
  refine start_ (n := 8) (S := fun w' => w'.cell? ⟨t, 2, none⟩ = some (.map (some ru)) ∧ w'.cell? ⟨w.heap.size, 1, none⟩ = some (.int .i64 u) ∧ (Instr.lookup 68 (.map (some ru)) (.int .i64 u) false).run Tryd.prog w' = .ok (.pointer none) w') (ds := []) #[false, false, false, false, false, false, false, false] (by kernel_rfl) rfl rfl ⟨c2, b1, l2'⟩ (fun hHeld => ?_)
  refine pure_ (i := 0) (N := some 28) (v := ?_) (a' := ?_) #[true, false, false, false, false, false, false, false] rfl rfl (by kernel_rfl) (fun _ _ _ h => h) (Or.inl ⟨by rfl, ?_⟩) ?_ ?_
  rotate_left
  · intro w'
    go_simp
    with_reducible rfl
  rotate_left
  · simp only [Act.put, List.setIfInBounds_toArray, List.set_cons_zero, List.set_cons_succ, i64_w, i32_w]
    rfl
  refine pure_ (i := 1) (N := some 29) (v := ?_) (a' := ?_) #[true, true, false, false, false, false, false, false] rfl rfl (by kernel_rfl) (fun _ _ _ h => h) (Or.inl ⟨by rfl, ?_⟩) ?_ ?_
  rotate_left
  · intro w'
    go_simp
    with_reducible rfl
  rotate_left
  · simp only [Act.put, List.setIfInBounds_toArray, List.set_cons_zero, List.set_cons_succ, i64_w, i32_w]
    rfl
  refine pure_ (i := 2) (N := some 30) (v := ?_) (a' := ?_) #[true, true, true, false, false, false, false, false] rfl rfl (by kernel_rfl) (fun _ _ _ h => h) (Or.inl ⟨by rfl, ?_⟩) ?_ ?_
  rotate_left
  · intro w'
    go_simp
    with_reducible rfl
  rotate_left
  · simp only [Act.put, List.setIfInBounds_toArray, List.set_cons_zero, List.set_cons_succ, i64_w, i32_w]
    rfl
  refine pure_ (i := 4) (N := some 32) (v := ?_) (a' := ?_) #[true, true, true, false, true, false, false, false] rfl rfl (by kernel_rfl) (fun _ _ _ h => h) (Or.inl ⟨by rfl, ?_⟩) ?_ ?_
  rotate_left
  · intro w'
    go_simp
    with_reducible rfl
  rotate_left
  · simp only [Act.put, List.setIfInBounds_toArray, List.set_cons_zero, List.set_cons_succ, i64_w, i32_w]
    rfl
  refine take_ (i := 3) (N := some 31) (v := ?_) (a' := ?_) #[true, true, true, true, true, false, false, false] rfl rfl (by kernel_rfl) (fun _ _ _ h => h) (Or.inl ⟨by rfl, ?_⟩) hHeld ?_ ?_
  rotate_left
  · rintro w' ⟨s0, s1, s2⟩
    go_simp
    with_reducible rfl
  rotate_left
  · simp only [Act.put, List.setIfInBounds_toArray, List.set_cons_zero, List.set_cons_succ, i64_w, i32_w]
    rfl
  refine take_ (i := 5) (N := some 33) (v := ?_) (a' := ?_) #[true, true, true, true, true, true, false, false] rfl rfl (by kernel_rfl) (fun _ _ _ h => h) (Or.inl ⟨by rfl, ?_⟩) hHeld ?_ ?_
  rotate_left
  · rintro w' ⟨s0, s1, s2⟩
    go_simp
    with_reducible rfl
  rotate_left
  · simp only [Act.put, List.setIfInBounds_toArray, List.set_cons_zero, List.set_cons_succ, i64_w, i32_w]
    rfl
  refine take_ (i := 6) (N := some 34) (v := ?_) (a' := ?_) #[true, true, true, true, true, true, true, false] rfl rfl (by kernel_rfl) (fun _ _ _ h => h) (Or.inl ⟨by rfl, ?_⟩) hHeld ?_ ?_
  rotate_left
  · rintro w' ⟨s0, s1, s2⟩
    go_simp
    with_reducible rfl
  rotate_left
  · simp only [Act.put, List.setIfInBounds_toArray, List.set_cons_zero, List.set_cons_succ, i64_w, i32_w]
    rfl
  refine pure_ (i := 7) (N := some 35) (v := ?_) (a' := ?_) #[true, true, true, true, true, true, true, true] rfl rfl (by kernel_rfl) (fun _ _ _ h => h) (Or.inl ⟨by rfl, ?_⟩) ?_ ?_
  rotate_left
  · intro w'
    go_simp
    with_reducible rfl
  rotate_left
  · simp only [Act.put, List.setIfInBounds_toArray, List.set_cons_zero, List.set_cons_succ, i64_w, i32_w]
    rfl
  refine done_ (by kernel_rfl) ?_

  go_wp2
  refine start_ (n := 12) (S := fun w' => w'.cell? ⟨w.heap.size, 1, none⟩ = some (.int .i64 u) ∧ w'.cell? ⟨w.heap.size, 4, none⟩ = some (.bool ob) ∧ w'.cell? ⟨w.heap.size, 5, none⟩ = some (.slice aa ac.length cc) ∧ w'.cell? ⟨w.heap.size, 6, none⟩ = some (.int .i64 br.r1) ∧ w'.cell? ⟨w.heap.size, 7, none⟩ = some (.int .i64 br.r2) ∧ w'.cell? ⟨w.heap.size, 8, none⟩ = some (.int .i64 br.r3) ∧ w'.cell? ⟨w.heap.size, 9, none⟩ = some (.int .i64 br.gates)) (ds := [10]) #[false, false, false, false, false, false, false, false, false, false, false, false] (by kernel_rfl) rfl rfl ⟨b1, b4, b5, b6, b7, b8, b9⟩ (fun hHeld => ?_)
  refine pure_ (i := 0) (N := some 37) (v := ?_) (a' := ?_) #[true, false, false, false, false, false, false, false, false, false, false, false] rfl rfl (by kernel_rfl) (fun _ _ _ h => h) (Or.inl ⟨by rfl, ?_⟩) ?_ ?_
  rotate_left
  · intro w'
    go_simp
    with_reducible rfl
  rotate_left
  · simp only [Act.put, List.setIfInBounds_toArray, List.set_cons_zero, List.set_cons_succ, i64_w, i32_w]
    rfl
  refine pure_ (i := 2) (N := some 39) (v := ?_) (a' := ?_) #[true, false, true, false, false, false, false, false, false, false, false, false] rfl rfl (by kernel_rfl) (fun _ _ _ h => h) (Or.inl ⟨by rfl, ?_⟩) ?_ ?_
  rotate_left
  · intro w'
    go_simp
    with_reducible rfl
  rotate_left
  · simp only [Act.put, List.setIfInBounds_toArray, List.set_cons_zero, List.set_cons_succ, i64_w, i32_w]
    rfl
  refine pure_ (i := 4) (N := some 41) (v := ?_) (a' := ?_) #[true, false, true, false, true, false, false, false, false, false, false, false] rfl rfl (by kernel_rfl) (fun _ _ _ h => h) (Or.inl ⟨by rfl, ?_⟩) ?_ ?_
  rotate_left
  · intro w'
    go_simp
    with_reducible rfl
  rotate_left
  · simp only [Act.put, List.setIfInBounds_toArray, List.set_cons_zero, List.set_cons_succ, i64_w, i32_w]
    rfl
  refine pure_ (i := 7) (N := some 44) (v := ?_) (a' := ?_) #[true, false, true, false, true, false, false, true, false, false, false, false] rfl rfl (by kernel_rfl) (fun _ _ _ h => h) (Or.inl ⟨by rfl, ?_⟩) ?_ ?_
  rotate_left
  · intro w'
    go_simp
    with_reducible rfl
  rotate_left
  · simp only [Act.put, List.setIfInBounds_toArray, List.set_cons_zero, List.set_cons_succ, i64_w, i32_w]
    rfl
  refine take_ (i := 1) (N := some 38) (v := ?_) (a' := ?_) #[true, true, true, false, true, false, false, true, false, false, false, false] rfl rfl (by kernel_rfl) (fun _ _ _ h => h) (Or.inl ⟨by rfl, ?_⟩) hHeld ?_ ?_
  rotate_left
  · rintro w' ⟨s0, s1, s2, s3, s4, s5, s6⟩
    go_simp
    with_reducible rfl
  rotate_left
  · simp only [Act.put, List.setIfInBounds_toArray, List.set_cons_zero, List.set_cons_succ, i64_w, i32_w]
    rfl
  refine take_ (i := 3) (N := some 40) (v := ?_) (a' := ?_) #[true, true, true, true, true, false, false, true, false, false, false, false] rfl rfl (by kernel_rfl) (fun _ _ _ h => h) (Or.inl ⟨by rfl, ?_⟩) hHeld ?_ ?_
  rotate_left
  · rintro w' ⟨s0, s1, s2, s3, s4, s5, s6⟩
    go_simp
    with_reducible rfl
  rotate_left
  · simp only [Act.put, List.setIfInBounds_toArray, List.set_cons_zero, List.set_cons_succ, i64_w, i32_w]
    rfl
  refine take_ (i := 5) (N := some 42) (v := ?_) (a' := ?_) #[true, true, true, true, true, true, false, true, false, false, false, false] rfl rfl (by kernel_rfl) (fun _ _ _ h => h) (Or.inl ⟨by rfl, ?_⟩) hHeld ?_ ?_
  rotate_left
  · rintro w' ⟨s0, s1, s2, s3, s4, s5, s6⟩
    go_simp
    with_reducible rfl
  rotate_left
  · simp only [Act.put, List.setIfInBounds_toArray, List.set_cons_zero, List.set_cons_succ, i64_w, i32_w]
    rfl
  refine take_ (i := 8) (N := some 45) (v := ?_) (a' := ?_) #[true, true, true, true, true, true, false, true, true, false, false, false] rfl rfl (by kernel_rfl) (fun _ _ _ h => h) (Or.inl ⟨by rfl, ?_⟩) hHeld ?_ ?_
  rotate_left
  · rintro w' ⟨s0, s1, s2, s3, s4, s5, s6⟩
    go_simp
    with_reducible rfl
  rotate_left
  · simp only [Act.put, List.setIfInBounds_toArray, List.set_cons_zero, List.set_cons_succ, i64_w, i32_w]
    rfl
  refine one_ (i := 6) (N := some 43) #[true, true, true, true, true, true, true, true, true, false, false, false] rfl rfl (by kernel_rfl) (by decide) (fun K hK => ?_)
  refine goes_ Tryd.func36 (by kernel_rfl) rfl #[.slice aa ac.length cc] (by rfl) rfl rfl (by simp only [List.map_toArray, List.map_cons, List.map_nil]; rfl) ?_
  with_reducible refine (cloneTerm_any _ ac _ _ hBx.drew.drew (hr.below hB02.drew.drew) HN.out).mono ?_
  rintro e w3 ⟨v3, rfl, hH3, hB3⟩
  refine ⟨_, rfl, ?_⟩
  obtain ⟨a3, c3, rfl, _⟩ := hH3.own_slice
  have hE4 := hH3.to (Q := blk (w.heap.size + 1) _ * (blk w.heap.size _ * (aclH (.slice a3 ac.length c3) ac * (treeH t C * R)))) (by ac_rfl)
  have hB9 := hB02.drew.drew.trans (hB3.mono (Nat.le_of_lt hA2))
  have hk := blk_cells hE4
  have hq := blk_free hE4
  refine hK.out _ _ ⟨((hB3.cell (p := ⟨w.heap.size, 1, none⟩) hA2).trans b1), ((hB3.cell (p := ⟨w.heap.size, 4, none⟩) hA2).trans b4), ((hB3.cell (p := ⟨w.heap.size, 5, none⟩) hA2).trans b5), ((hB3.cell (p := ⟨w.heap.size, 6, none⟩) hA2).trans b6), ((hB3.cell (p := ⟨w.heap.size, 7, none⟩) hA2).trans b7), ((hB3.cell (p := ⟨w.heap.size, 8, none⟩) hA2).trans b8), ((hB3.cell (p := ⟨w.heap.size, 9, none⟩) hA2).trans b9)⟩ (fun hHeld => ?_)
  clear hK K
  refine norm_ (a' := ?_) ?_ ?_
  rotate_left
  · show Act.put _ (some 43) _ = _
    simp only [Act.put, List.setIfInBounds_toArray, List.set_cons_zero, List.set_cons_succ, i64_w, i32_w]
    rfl
  refine pure_ (i := 9) (N := some 46) (v := ?_) (a' := ?_) #[true, true, true, true, true, true, true, true, true, true, false, false] rfl rfl (by kernel_rfl) (fun _ _ _ h => h) (Or.inl ⟨by rfl, ?_⟩) ?_ ?_
  rotate_left
  · intro w'
    go_simp
    with_reducible rfl
  rotate_left
  · simp only [Act.put, List.setIfInBounds_toArray, List.set_cons_zero, List.set_cons_succ, i64_w, i32_w]
    rfl
  refine last_ (i := 10) (N := none) #[true, true, true, true, true, true, true, true, true, true, true, false] rfl rfl (by kernel_rfl) (by decide) (fun K hK => ?_)
  refine skip_ (w1 := ?_) (by rfl) rfl ?_ ?_
  rotate_left
  · go_simp
    rfl
  refine hK.out _ _ ?_
  clear hK K
  refine pure_ (i := 11) (N := some 5) (v := ?_) (a' := ?_) #[true, true, true, true, true, true, true, true, true, true, true, true] rfl rfl (by kernel_rfl) (fun _ _ _ h => h) (Or.inl ⟨by rfl, ?_⟩) ?_ ?_
  rotate_left
  · intro w'
    go_simp
    with_reducible rfl
  rotate_left
  · simp only [Act.put, List.setIfInBounds_toArray, List.set_cons_zero, List.set_cons_succ, i64_w, i32_w]
    rfl
  refine done_ (by kernel_rfl) ?_

  have HE := Lib.hid (holds_setBrn hE4 rfl (segOf ⟨1, u, d, l, ob, ac, br⟩) (.slice a3 ac.length c3))
  have HB := Lib.hid (below_setBrn hB9 (Nat.le_succ w.heap.size) (segOf ⟨1, u, d, l, ob, ac, br⟩) (.slice a3 ac.length c3))
  clear hE4 hH3 hB9 hk hq
  go_wp2
  exact ret_branch (b := segOf ⟨1, u, d, l, ob, ac, br⟩) (i := 4) (j := 5) rfl rfl rfl rfl HE.out.get ⟨_, rfl, HE.out.right.right, HB.out⟩
end
end Go.Proofs.YtapkcgmjadpdiaaDoor

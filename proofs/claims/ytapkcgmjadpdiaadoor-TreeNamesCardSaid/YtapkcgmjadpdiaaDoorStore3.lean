/- store.Make, store.Drop. -/
import Derived.Test.YtapkcgmjadpdiaaDoorStore2
namespace Go.Proofs.YtapkcgmjadpdiaaDoor
set_option linter.unusedVariables false
set_option linter.unusedSimpArgs false
open Go.RowKit Go.Maps Go.Sp Go.Proofs.YtapkcgmjadpdiaaDoorW.PrintLast
section
variable {w : World} {s : Nat} {Q : StoreC} {R : HProp}

theorem infoWord : (Tryd.prog.info? 158).map (fun i => (i.zero, i.size, i.bytes)) = some (some (.int .u64 0), 1, 8) := by kernel_rfl
theorem make_words (n : Nat) (hn : n ≤ 1024) (w : World) :
    (Instr.makeSlice 74 (.int .i64 (n : Int)) (.int .i64 (n : Int))).run Tryd.prog w = .ok (.slice (some ⟨w.heap.size, 0, none⟩) n n) (w.alloc (.cells (wordsV (List.replicate n 0)).toArray 158)) := by
  obtain ⟨i0, hi0, hz0, hz1, hz2⟩ := info_parts infoWord
  have h := run_make w 74 158 i0 (.int .u64 0) Tryd.underlying74 hi0 hz0 .i64 .i64 n n (by omega) (by omega) (by rw [hz2]; omega) (by omega)
  rw [hz1] at h
  simp only [Int.toNat_natCast, Nat.mul_one, Value.cells, madeCells_one] at h
  rw [h]
  simp [wordsV]

theorem smake_err (h : Holds w (storeH s Q * R)) {size : Int} (hq : 0 ≤ Q.quota ∧ Q.quota ≤ 9223372036854775807) (hu : 0 ≤ Q.used ∧ Q.used ≤ 4294967296) (hm : Q.may size 0 ≠ 0) :
    Calls Tryd.prog 9 #[.pointer (some ⟨s, 0, none⟩), .int .i64 size] w fun e w' => e = .returned (.tuple #[.int .i64 0, .int .i64 (Q.may size 0)]) ∧ ∃ n, w' = w.drewN n := by
  have hc := smay_any h (size := size) (gone := 0) hq hu (by omega)
  generalize Q.may size 0 = m at hc hm
  have hm' : (m != 0) = true := by simpa using hm
  have HC := Lib.hid hc
  clear hc h hm
  go_enter Tryd.func9, Tryd.ntmps9
  go_wp2_with fail
  refine HC.out.mono ?_
  rintro e w' ⟨rfl, n, rfl⟩
  go_wp2
  go_ret2
  exact ⟨rfl, n, rfl⟩

set_option maxRecDepth 100000 in
set_option maxHeartbeats 1000000 in
theorem smake_ok (h : Holds w (storeH s Q * R)) {n : Nat} (hq : 0 ≤ Q.quota ∧ Q.quota ≤ 9223372036854775807) (hu : 0 ≤ Q.used ∧ Q.used ≤ 4294967296) (hx : 0 ≤ Q.next ∧ Q.next < 4294967296) (hm : Q.may n 0 = 0) (hn : alGet Q.segs (Q.next + 1) = none) :
    Calls Tryd.prog 9 #[.pointer (some ⟨s, 0, none⟩), .int .i64 (n : Int)] w fun e w' => ∃ v, e = .returned (.tuple #[.int .i64 (Q.next + 1), .int .i64 0]) ∧
      Holds w' (storeH s ⟨Q.quota, Q.used + n, Q.next + 1, Q.segs ++ [(Q.next + 1, ⟨v, List.replicate n 0⟩)]⟩ * R) := by
  have hn1 : n ≤ 1024 := by
    have h2 : ¬ ((n : Int) < 0 ∨ 1024 < (n : Int)) := by intro hh; simp [StoreC.may, hh] at hm
    omega
  have hc := smay_any h (size := n) (gone := 0) hq hu (by omega)
  rw [hm] at hc
  have HC := Lib.hid hc
  have HN := Lib.hid hn
  obtain ⟨ml, ho⟩ := holds_store.1 h
  have HO := Lib.hid ho
  clear hc hm hn h ho
  have hmk := make_words n hn1
  go_enter Tryd.func9, Tryd.ntmps9
  go_wp2_with fail
  refine HC.out.mono ?_
  rintro e w' ⟨rfl, m, rfl⟩
  have h1 := HO.out.drewN m
  obtain ⟨c0, c1, c2, c3⟩ := StoreAt.c h1
  have f1 := StoreAt.f h1
  have h2 : Holds ((w.drewN m).setCell ⟨s, 2, none⟩ (.int .i64 (Q.next + 1))) (blk s (.cells (stCells ⟨Q.quota, Q.used, Q.next + 1, Q.segs⟩ ml) 73 (0, 0)) * (mpS ml Q.segs * (bigS segH Q.segs * R))) := h1.setCell (i := 2) (.int .i64 (Q.next + 1))
  have h3 := (h2.alloc (.cells (wordsV (List.replicate n 0)).toArray 158)).drew
  have k2 := (StoreAt.c h2).2.2.1
  have k3 := (StoreAt.c h2).2.2.2
  simp only at k2
  have hs2 : ((w.drewN m).setCell ⟨s, 2, none⟩ (.int .i64 (Q.next + 1))).heap.size = w.heap.size := by simp
  rw [hs2] at h3
  have h4 : Holds _ (mpS ml Q.segs * (blk s (.cells (stCells ⟨Q.quota, Q.used, Q.next + 1, Q.segs⟩ ml) 73 (0, 0)) * (blk w.heap.size (.cells (wordsV (List.replicate n 0)).toArray 158) * (bigS segH Q.segs * R)))) := h3.to (by ac_rfl)
  obtain ⟨W5, r5, h5, _⟩ := run_update_new (v := .slice (some ⟨w.heap.size, 0, none⟩) n n) intLaw Tryd.underlying71 h4 (okInt (I64.of (by omega))) ((mem_map_fst (encK := intV) (encV := Seg.v) intV_inj).2 (al_none.1 HN.out))
  have r5' : (Instr.mapUpdate 71 (.map (some ml)) (.int .i64 (Q.next + 1)) (.slice (some ⟨w.heap.size, 0, none⟩) n n)).run Tryd.prog (((w.drewN m).setCell ⟨s, 2, none⟩ (.int .i64 (Q.next + 1))).alloc (.cells (wordsV (List.replicate n 0)).toArray 158)).drew = .ok () W5 := r5
  have h3b : Holds _ (blk s (.cells (stCells ⟨Q.quota, Q.used, Q.next + 1, Q.segs⟩ ml) 73 (0, 0)) * _) := h4.to (star_left_comm _ _ _)
  have k2' := (StoreAt.c h3b).2.2.1
  have k3' := (StoreAt.c h3b).2.2.2
  have h6 : Holds W5 (blk s (.cells (stCells ⟨Q.quota, Q.used, Q.next + 1, Q.segs⟩ ml) 73 (0, 0)) * (mpS ml (Q.segs ++ [(Q.next + 1, ⟨.slice (some ⟨w.heap.size, 0, none⟩) n n, List.replicate n 0⟩)]) * (bigS segH (Q.segs ++ [(Q.next + 1, ⟨.slice (some ⟨w.heap.size, 0, none⟩) n n, List.replicate n 0⟩)]) * R))) := by
    rw [bigS_snoc]
    have h7 : Holds W5 (own 158 1 (.slice (some ⟨w.heap.size, 0, none⟩) n n) n (wordsV (List.replicate n 0)) * (blk s (.cells (stCells ⟨Q.quota, Q.used, Q.next + 1, Q.segs⟩ ml) 73 (0, 0)) * (mpS ml (Q.segs ++ [(Q.next + 1, ⟨.slice (some ⟨w.heap.size, 0, none⟩) n n, List.replicate n 0⟩)]) * (bigS segH Q.segs * R)))) := by
      refine own_cases.2 (.inr ⟨w.heap.size, n, (wordsV (List.replicate n 0)).toArray, rfl, Nat.le_refl _, by unfold maxLen; omega, by simp [wordsV], by simp [wordsV], by simp [wordsV], h5.to ?_⟩)
      unfold mpS
      rw [List.map_append]
      ac_rfl
    exact h7.to (by simp only [segH, List.length_replicate]; ac_rfl)
  obtain ⟨d0, d1, d2, d3⟩ := StoreAt.c h6
  have g5 := StoreAt.f h6
  simp only at d1 d2
  have h8 : Holds (W5.setCell ⟨s, 1, none⟩ (.int .i64 (Q.used + n))) (blk s (.cells (stCells ⟨Q.quota, Q.used + n, Q.next + 1, Q.segs⟩ ml) 73 (0, 0)) * _) := h6.setCell (i := 1) (.int .i64 (Q.used + n))
  have HF := Lib.hid (holds_store (Q := ⟨Q.quota, Q.used + n, Q.next + 1, Q.segs ++ [(Q.next + 1, ⟨.slice (some ⟨w.heap.size, 0, none⟩) n n, List.replicate n 0⟩)]⟩).2 ⟨ml, h8⟩)
  clear h1 h2 h3 h3b h4 h5 h6 h8 HO HC r5
  go_wp2
  refine start_ (n := 11) (S := fun w' => w'.cell? ⟨s, 2, none⟩ = some (.int .i64 (Q.next + 1)) ∧ w'.cell? ⟨s, 3, none⟩ = some (.map (some ml))) (ds := [10]) #[false, false, false, false, false, false, false, false, false, false, false] (by kernel_rfl) rfl rfl ⟨k2, k3⟩ (fun hHeld => ?_)
  refine pure_ (i := 0) (N := some 20) (v := ?_) (a' := ?_) #[true, false, false, false, false, false, false, false, false, false, false] rfl rfl (by kernel_rfl) (fun _ _ _ h => h) (Or.inl ⟨by rfl, ?_⟩) ?_ ?_
  rotate_left
  · intro w'
    go_simp
    with_reducible rfl
  rotate_left
  · simp only [Act.put, List.setIfInBounds_toArray, List.set_cons_zero, List.set_cons_succ, i64_w, i32_w]
    rfl
  refine pure_ (i := 1) (N := some 21) (v := ?_) (a' := ?_) #[true, true, false, false, false, false, false, false, false, false, false] rfl rfl (by kernel_rfl) (fun _ _ _ h => h) (Or.inl ⟨by rfl, ?_⟩) ?_ ?_
  rotate_left
  · intro w'
    go_simp
    with_reducible rfl
  rotate_left
  · simp only [Act.put, List.setIfInBounds_toArray, List.set_cons_zero, List.set_cons_succ, i64_w, i32_w]
    rfl
  refine pure_ (i := 2) (N := some 22) (v := ?_) (a' := ?_) #[true, true, true, false, false, false, false, false, false, false, false] rfl rfl (by kernel_rfl) (fun _ _ _ h => h) (Or.inl ⟨by rfl, ?_⟩) ?_ ?_
  rotate_left
  · intro w'
    go_simp
    with_reducible rfl
  rotate_left
  · simp only [Act.put, List.setIfInBounds_toArray, List.set_cons_zero, List.set_cons_succ, i64_w, i32_w]
    rfl
  refine pure_ (i := 4) (N := some 24) (v := ?_) (a' := ?_) #[true, true, true, false, true, false, false, false, false, false, false] rfl rfl (by kernel_rfl) (fun _ _ _ h => h) (Or.inl ⟨by rfl, ?_⟩) ?_ ?_
  rotate_left
  · intro w'
    go_simp
    with_reducible rfl
  rotate_left
  · simp only [Act.put, List.setIfInBounds_toArray, List.set_cons_zero, List.set_cons_succ, i64_w, i32_w]
    rfl
  refine pure_ (i := 5) (N := some 25) (v := ?_) (a' := ?_) #[true, true, true, false, true, true, false, false, false, false, false] rfl rfl (by kernel_rfl) (fun _ _ _ h => h) (Or.inl ⟨by rfl, ?_⟩) ?_ ?_
  rotate_left
  · intro w'
    go_simp
    with_reducible rfl
  rotate_left
  · simp only [Act.put, List.setIfInBounds_toArray, List.set_cons_zero, List.set_cons_succ, i64_w, i32_w]
    rfl
  refine pure_ (i := 6) (N := some 26) (v := ?_) (a' := ?_) #[true, true, true, false, true, true, true, false, false, false, false] rfl rfl (by kernel_rfl) (fun _ _ _ h => h) (Or.inl ⟨by rfl, ?_⟩) ?_ ?_
  rotate_left
  · intro w'
    go_simp
    with_reducible rfl
  rotate_left
  · simp only [Act.put, List.setIfInBounds_toArray, List.set_cons_zero, List.set_cons_succ, i64_w, i32_w]
    rfl
  refine pure_ (i := 8) (N := some 28) (v := ?_) (a' := ?_) #[true, true, true, false, true, true, true, false, true, false, false] rfl rfl (by kernel_rfl) (fun _ _ _ h => h) (Or.inl ⟨by rfl, ?_⟩) ?_ ?_
  rotate_left
  · intro w'
    go_simp
    with_reducible rfl
  rotate_left
  · simp only [Act.put, List.setIfInBounds_toArray, List.set_cons_zero, List.set_cons_succ, i64_w, i32_w]
    rfl
  refine take_ (i := 3) (N := some 23) (v := ?_) (a' := ?_) #[true, true, true, true, true, true, true, false, true, false, false] rfl rfl (by kernel_rfl) (fun _ _ _ h => h) (Or.inl ⟨by rfl, ?_⟩) hHeld ?_ ?_
  rotate_left
  · rintro w' ⟨s0, s1⟩
    go_simp
    with_reducible rfl
  rotate_left
  · simp only [Act.put, List.setIfInBounds_toArray, List.set_cons_zero, List.set_cons_succ, i64_w, i32_w]
    rfl
  refine take_ (i := 7) (N := some 27) (v := ?_) (a' := ?_) #[true, true, true, true, true, true, true, true, true, false, false] rfl rfl (by kernel_rfl) (fun _ _ _ h => h) (Or.inl ⟨by rfl, ?_⟩) hHeld ?_ ?_
  rotate_left
  · rintro w' ⟨s0, s1⟩
    go_simp
    with_reducible rfl
  rotate_left
  · simp only [Act.put, List.setIfInBounds_toArray, List.set_cons_zero, List.set_cons_succ, i64_w, i32_w]
    rfl
  refine one_ (i := 9) (N := some 29) #[true, true, true, true, true, true, true, true, true, true, false] rfl rfl (by kernel_rfl) (by decide) (fun K hK => ?_)
  refine value_ (w1 := ?_) (v := ?_) (by rfl) rfl ?_ ?_
  rotate_left 2
  · go_simp
    constructor
    · rfl
    · rfl
  refine hK.out _ _ ⟨k2', k3'⟩ (fun hHeld => ?_)
  clear hK K
  refine norm_ (a' := ?_) ?_ ?_
  rotate_left
  · show Act.put _ (some 29) _ = _
    simp only [Act.put, List.setIfInBounds_toArray, List.set_cons_zero, List.set_cons_succ, i64_w, i32_w]
    rfl
  refine last_ (i := 10) (N := none) #[true, true, true, true, true, true, true, true, true, true, true] rfl rfl (by kernel_rfl) (by decide) (fun K hK => ?_)
  refine skip_ (w1 := ?_) (by rfl) rfl ?_ ?_
  rotate_left
  · go_simp
    rfl
  refine hK.out _ _ ?_
  clear hK K
  refine done_ (by kernel_rfl) ?_

  go_wp2
  go_ret2
  exact ⟨_, rfl, HF.out⟩
end
end Go.Proofs.YtapkcgmjadpdiaaDoor

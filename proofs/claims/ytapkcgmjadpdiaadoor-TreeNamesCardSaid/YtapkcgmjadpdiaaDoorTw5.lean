/- tree.Add. -/
import Derived.Test.YtapkcgmjadpdiaaDoorTw4
namespace Go.Proofs.YtapkcgmjadpdiaaDoor
set_option linter.unusedVariables false
set_option linter.unusedSimpArgs false
open Go.RowKit Go.Maps Go.Sp Go.Proofs.YtapkcgmjadpdiaaDoorW.PrintLast

section
variable {w : World} {t : Nat} {C : TreeC} {R : HProp}

theorem tree_new_node {nb : Nat} {x : Nod} {av : Value} (h : Holds w (blk nb (.cells (nodCells x av) 82 (0, 0)) * (aclH av x.b.acl * (treeH t C * R)))) : Holds w (treeH t { C with nodes := C.nodes ++ [(nb, x)] } * R) := by
  have h2 : Holds w (treeH t C * (aclH av x.b.acl * (blk nb (.cells (nodCells x av) 82 (0, 0)) * R))) := h.to (by ac_rfl)
  obtain ⟨rl, rd, ru, ho⟩ := holds_tree.1 h2
  refine holds_tree.2 ⟨rl, rd, ru, ?_⟩
  have e : bigS nodH (C.nodes ++ [(nb, x)]) = nodH (nb, x) * bigS nodH C.nodes := bigS_snoc _ _ _
  simp only
  rw [e]
  have hn : nodH (nb, x) = ex fun av => aclH av x.b.acl * blk nb (.cells (nodCells x av) 82 (0, 0)) := rfl
  have ho2 : Holds w ((aclH av x.b.acl * blk nb (.cells (nodCells x av) 82 (0, 0))) * (blk t (.cells (rootCells rl rd ru C.next) 70 (0, 0)) * (mpL rl C.ents * (mpD rd C.dirs * (mpU ru C.uids * (bigS nodH C.nodes * R)))))) := ho.to (by ac_rfl)
  have ho3 : Holds w (nodH (nb, x) * (blk t (.cells (rootCells rl rd ru C.next) 70 (0, 0)) * (mpL rl C.ents * (mpD rd C.dirs * (mpU ru C.uids * (bigS nodH C.nodes * R)))))) := by
    rw [hn, ex_star, holds_ex]; exact ⟨av, ho2⟩
  exact ho3.to (by ac_rfl)
/-- A block that is apart from the tree's nodes bears another number. -/
theorem node_fresh {nb : Nat} {o : Obj} (h : Holds w (blk nb o * (treeH t C * R))) : alGet C.nodes nb = none := by
  cases e : alGet C.nodes nb with
  | none => rfl
  | some x =>
    have h2 : Holds w (treeH t C * (blk nb o * R)) := h.to (by ac_rfl)
    obtain ⟨rl, rd, ru, ho⟩ := holds_tree.1 h2
    obtain ⟨n1, n2, av, _, _, hN⟩ := nod_front (C := C) (TreeAt.n ⟨ho⟩) e
    exact absurd rfl (Holds.ne (hN.to (Q := blk nb _ * (blk nb o * (aclH av x.b.acl * (bigS nodH (n1 ++ n2) * (blk t (.cells (rootCells rl rd ru C.next) 70 (0, 0)) * (mpL rl C.ents * (mpD rd C.dirs * (mpU ru C.uids * R)))))))) (by ac_rfl)))

theorem al_get_snoc {κ ν : Type} [DecidableEq κ] {l : List (κ × ν)} {k : κ} {v : ν} (h : alGet l k = none) : alGet (l ++ [(k, v)]) k = some v := by rw [al_append h, if_pos rfl]
theorem al_set_snoc {κ ν : Type} [DecidableEq κ] : ∀ {l : List (κ × ν)} {k : κ} {v v' : ν}, alGet l k = none → alSet (l ++ [(k, v)]) k v' = l ++ [(k, v')]
  | [], k, v, v', _ => by simp [alSet]
  | (k2, v2) :: l, k, v, v', h => by
    have h2 : ¬ k2 = k := by intro e; simp [alGet, e] at h
    have h3 : alGet l k = none := by simpa [alGet, h2] using h
    simp [alSet, h2, al_set_snoc h3]

/-- What Add makes of a tree: the node nb holds the branch b; its directory had c names. -/
def TreeC.added (C : TreeC) (d : Int) (n : ByteArray) (b : Brn) (nb : Nat) (c : Int) : TreeC :=
  { ents := C.ents ++ [((d, n), nb)]
    dirs := if b.kind = 2 then alSet C.dirs d (c + 1) ++ [(b.dir, 0)] else alSet C.dirs d (c + 1)
    uids := if b.kind = 1 then C.uids ++ [(b.uid, nb)] else C.uids
    next := if b.kind = 2 then b.dir else C.next
    nodes := C.nodes ++ [(nb, ⟨b, d, 1⟩)] }

set_option maxRecDepth 100000 in
set_option maxHeartbeats 4000000 in
theorem add_ok (h : Holds w (treeH t C * R)) {d : Int} {n : ByteArray} (hd : I64 d) (hn : n.size ≤ maxLen) (hok : signsB n 32 = true) {c : Int} (hc : alGet C.dirs d = some c) (hcb : 0 ≤ c ∧ c < 4294967296) (hf : C.find d n = none)
    (b : Brn) (aa : Option Addr) (nn cc : Nat) (b' : Brn) (hk : b'.kind = 1 ∨ b'.kind = 2 ∨ b'.kind = 3) (h1 : b'.kind = 1 → 1 ≤ b'.uid ∧ b'.uid ≤ 9223372036854775807 ∧ alGet C.uids b'.uid = none) (h2 : b'.kind = 2 → b'.dir = C.next + 1 ∧ (0 ≤ C.next ∧ C.next < 4294967296) ∧ alGet C.dirs (C.next + 1) = none ∧ d ≠ C.next + 1)
    (hcl : ∀ W R', Holds W (treeH t C * R') → Below w.heap.size w W → Calls Tryd.prog 30 #[.pointer (some ⟨t, 0, none⟩), b.agg (.slice aa nn cc)] W fun e w' => ∃ v, e = .returned (.tuple #[b'.agg v, .int .i64 0]) ∧ Holds w' (aclH v b'.acl * (treeH t C * R')) ∧ Below W.heap.size W w') :
    Calls Tryd.prog 10 #[.pointer (some ⟨t, 0, none⟩), .int .i64 d, .string n, b.agg (.slice aa nn cc)] w fun e w' => ∃ nb, e = .returned (.tuple #[.int .i64 b'.dir, .int .i64 0]) ∧ Holds w' (treeH t (C.added d n b' nb c) * R) ∧ alGet C.nodes nb = none := by
  obtain ⟨k, u, bd, l, ob, ac, br⟩ := b
  unfold Brn.agg at hcl ⊢
  simp only at hcl
  have hA := h.alloc (.cells #[.int .i64 k, .int .i64 u, .int .i64 bd, .string l, .bool ob, .slice aa nn cc, .int .i64 br.r1, .int .i64 br.r2, .int .i64 br.r3, .int .i64 br.gates] 37)
  have hA' := hA.to (star_left_comm _ _ _)
  have hBA : Below w.heap.size w (w.alloc (.cells #[.int .i64 k, .int .i64 u, .int .i64 bd, .string l, .bool ob, .slice aa nn cc, .int .i64 br.r1, .int .i64 br.r2, .int .i64 br.r3, .int .i64 br.gates] 37)) := (Below.refl _ _).alloc (Nat.le_refl _) _
  have HC := Lib.hid hc
  have HF := Lib.hid hf
  have HK := Lib.hid hok
  have H1 := Lib.hid h1
  have H2 := Lib.hid h2
  have HCL := Lib.hid hcl
  clear hc hf hok h1 h2 hcl
  go_enter Tryd.func10, Tryd.ntmps10
  go_wp2_with fail
  refine (is_any hA' hd).mono ?_
  rintro e w' ⟨rfl, rfl⟩
  rw [HC.out]
  simp only [Option.isSome_some]
  go_wp2_with fail
  refine (may_any n _ hn).mono ?_
  rintro e w' ⟨rfl, q1, rfl⟩
  rw [HK.out]
  go_wp2_with fail
  refine (get_any (hA'.drewN q1) hd hn).mono ?_
  rintro e w' ⟨rfl, rfl⟩
  rw [HF.out]
  simp only [optP]
  go_wp2_with fail
  refine (HCL.out _ _ (hA'.drewN q1) (below_drewN hBA q1)).mono ?_
  rintro e w1 ⟨v1, rfl, hH1, hB1⟩
  obtain ⟨a1, c1, rfl, _⟩ := hH1.own_slice
  have hA1 := hH1.alloc (.cells (brnCells b' (.slice a1 b'.acl.length c1)) 37)
  have hA2 := (hA1.to (star_left_comm _ _ _)).alloc (.cells (nodCells ⟨b', d, 0⟩ (.slice a1 b'.acl.length c1)) 82)
  have hsz : (w1.alloc (.cells (brnCells b' (.slice a1 b'.acl.length c1)) 37)).heap.size = w1.heap.size + 1 := by simp
  rw [hsz] at hA2
  have hA3 := hA2.to (Q := blk (w1.heap.size + 1) (.cells (nodCells ⟨b', d, 0⟩ (.slice a1 b'.acl.length c1)) 82) * (aclH (.slice a1 b'.acl.length c1) b'.acl * (treeH t C * (blk w1.heap.size (.cells (brnCells b' (.slice a1 b'.acl.length c1)) 37) * (blk w.heap.size _ * R))))) (by ac_rfl)
  have hT := tree_new_node hA3
  have hfr : alGet C.nodes (w1.heap.size + 1) = none := node_fresh (hA3.to (Q := blk (w1.heap.size + 1) _ * (treeH t C * (aclH (.slice a1 b'.acl.length c1) b'.acl * (blk w1.heap.size (.cells (brnCells b' (.slice a1 b'.acl.length c1)) 37) * (blk w.heap.size _ * R))))) (by ac_rfl))
  have HT := Lib.hid hT
  have HFR := Lib.hid hfr
  clear hA hA' hA1 hA2 hA3 hT hH1 hsz hfr h
  go_wp2_with fail
  refine (put_any (C := { C with nodes := C.nodes ++ [(w1.heap.size + 1, ⟨b', d, 0⟩)] }) HT.out hd hn HF.out HC.out hcb (al_get_snoc HFR.out) (by simp)).mono ?_
  rintro e w2 ⟨rfl, hH2⟩
  simp only [TreeC.put, al_set_snoc HFR.out] at hH2
  generalize hX : blk w.heap.size _ = X at hH2
  have hBx := hH2.to (Q := blk w1.heap.size (.cells (brnCells b' (.slice a1 b'.acl.length c1)) 37) * (treeH t _ * (X * R))) (by ac_rfl)
  have bx := blk_cells hBx
  have b1 := bx 1
  have b2 := bx 2
  have b0 := bx 0
  simp only [brnCells, List.getElem?_toArray, List.getElem?_cons_zero, List.getElem?_cons_succ] at b0 b1 b2
  obtain ⟨rl, rd, ru, ho⟩ := holds_tree.1 hH2
  have T2 : TreeAt w2 t _ _ rl rd ru := ⟨ho⟩
  have e1 : (0 : Int) + 1 = 1 := rfl
  rcases hk with hk | hk | hk
  · obtain ⟨u1, u2, hu⟩ := H1.out hk
    obtain ⟨W3, r3, H3, _⟩ := run_update_new (v := ptrV (w1.heap.size + 1)) intLaw Tryd.underlying68 T2.u.drew (okInt (I64.of ⟨by omega, u2⟩)) ((mem_map_fst (encK := intV) intV_inj).2 (al_none.1 hu))
    have r3' : (Instr.mapUpdate 68 (.map (some ru)) (.int .i64 b'.uid) (.pointer (some ⟨w1.heap.size + 1, 0, none⟩))).run Tryd.prog w2.drew = .ok () W3 := r3
    have eC : C.added d n b' (w1.heap.size + 1) c = ⟨C.ents ++ [((d, n), w1.heap.size + 1)], alSet C.dirs d (c + 1), C.uids ++ [(b'.uid, w1.heap.size + 1)], C.next, C.nodes ++ [(w1.heap.size + 1, ⟨b', d, 1⟩)]⟩ := by
      simp [TreeC.added, hk]
    have HW : Holds W3 (blk w1.heap.size (.cells (brnCells b' (.slice a1 b'.acl.length c1)) 37) * (treeH t (C.added d n b' (w1.heap.size + 1) c) * (X * R))) := by
      rw [star_left_comm, eC]
      refine holds_tree.2 ⟨rl, rd, ru, H3.to ?_⟩
      unfold mpU
      rw [List.map_append]
      ac_rfl
    have c2 := T2.c2
    have d2 := (blk_cells HW) 2
    simp only [brnCells, List.getElem?_toArray, List.getElem?_cons_zero, List.getElem?_cons_succ] at d2
    have HO := Lib.hid (HW.right.to (star_left_comm _ _ _)).right
    rw [hk] at b0
    clear r3 H3 HW bx hBx ho T2 hu H1 H2 HCL HT hH2
    go_wp2
    refine start_ (n := 8) (S := fun w' => w'.cell? ⟨t, 2, none⟩ = some (.map (some ru)) ∧ w'.cell? ⟨w1.heap.size, 1, none⟩ = some (.int .i64 b'.uid)) (ds := [7]) #[false, false, false, false, false, false, false, false] (by kernel_rfl) rfl rfl ⟨c2, b1⟩ (fun hHeld => ?_)
    refine pure_ (i := 0) (N := some 52) (v := ?_) (a' := ?_) #[true, false, false, false, false, false, false, false] rfl rfl (by kernel_rfl) (fun _ _ _ h => h) (Or.inl ⟨by rfl, ?_⟩) ?_ ?_
    rotate_left
    · intro w'
      go_simp
      with_reducible rfl
    rotate_left
    · simp only [Act.put, List.setIfInBounds_toArray, List.set_cons_zero, List.set_cons_succ, i64_w, i32_w]
      rfl
    refine pure_ (i := 1) (N := some 53) (v := ?_) (a' := ?_) #[true, true, false, false, false, false, false, false] rfl rfl (by kernel_rfl) (fun _ _ _ h => h) (Or.inl ⟨by rfl, ?_⟩) ?_ ?_
    rotate_left
    · intro w'
      go_simp
      with_reducible rfl
    rotate_left
    · simp only [Act.put, List.setIfInBounds_toArray, List.set_cons_zero, List.set_cons_succ, i64_w, i32_w]
      rfl
    refine pure_ (i := 2) (N := some 54) (v := ?_) (a' := ?_) #[true, true, true, false, false, false, false, false] rfl rfl (by kernel_rfl) (fun _ _ _ h => h) (Or.inl ⟨by rfl, ?_⟩) ?_ ?_
    rotate_left
    · intro w'
      go_simp
      with_reducible rfl
    rotate_left
    · simp only [Act.put, List.setIfInBounds_toArray, List.set_cons_zero, List.set_cons_succ, i64_w, i32_w]
      rfl
    refine pure_ (i := 4) (N := some 56) (v := ?_) (a' := ?_) #[true, true, true, false, true, false, false, false] rfl rfl (by kernel_rfl) (fun _ _ _ h => h) (Or.inl ⟨by rfl, ?_⟩) ?_ ?_
    rotate_left
    · intro w'
      go_simp
      with_reducible rfl
    rotate_left
    · simp only [Act.put, List.setIfInBounds_toArray, List.set_cons_zero, List.set_cons_succ, i64_w, i32_w]
      rfl
    refine pure_ (i := 6) (N := some 58) (v := ?_) (a' := ?_) #[true, true, true, false, true, false, true, false] rfl rfl (by kernel_rfl) (fun _ _ _ h => h) (Or.inl ⟨by rfl, ?_⟩) ?_ ?_
    rotate_left
    · intro w'
      go_simp
      with_reducible rfl
    rotate_left
    · simp only [Act.put, List.setIfInBounds_toArray, List.set_cons_zero, List.set_cons_succ, i64_w, i32_w]
      rfl
    refine take_ (i := 3) (N := some 55) (v := ?_) (a' := ?_) #[true, true, true, true, true, false, true, false] rfl rfl (by kernel_rfl) (fun _ _ _ h => h) (Or.inl ⟨by rfl, ?_⟩) hHeld ?_ ?_
    rotate_left
    · rintro w' ⟨s0, s1⟩
      go_simp
      with_reducible rfl
    rotate_left
    · simp only [Act.put, List.setIfInBounds_toArray, List.set_cons_zero, List.set_cons_succ, i64_w, i32_w]
      rfl
    refine take_ (i := 5) (N := some 57) (v := ?_) (a' := ?_) #[true, true, true, true, true, true, true, false] rfl rfl (by kernel_rfl) (fun _ _ _ h => h) (Or.inl ⟨by rfl, ?_⟩) hHeld ?_ ?_
    rotate_left
    · rintro w' ⟨s0, s1⟩
      go_simp
      with_reducible rfl
    rotate_left
    · simp only [Act.put, List.setIfInBounds_toArray, List.set_cons_zero, List.set_cons_succ, i64_w, i32_w]
      rfl
    refine last_ (i := 7) (N := none) #[true, true, true, true, true, true, true, true] rfl rfl (by kernel_rfl) (by decide) (fun K hK => ?_)
    refine skip_ (w1 := ?_) (by rfl) rfl ?_ ?_
    rotate_left
    · go_simp
      rfl
    refine hK.out _ _ ?_
    clear hK K
    refine done_ (by kernel_rfl) ?_

    go_wp2
    go_ret2
    exact ⟨_, rfl, HO.out, HFR.out⟩
  · obtain ⟨hd2, hnx, hdn, hdne⟩ := H2.out hk
    have hdn2 : alGet (alSet C.dirs d (c + 1)) (C.next + 1) = none := by rw [al_set, if_neg hdne]; exact hdn
    have hR3 : Holds (w2.setCell ⟨t, 3, none⟩ (.int .i64 (C.next + 1))) (blk t (.cells (rootCells rl rd ru (C.next + 1)) 70 (0, 0)) * _) := ho.setCell (i := 3) (.int .i64 (C.next + 1))
    have T3 : TreeAt (w2.setCell ⟨t, 3, none⟩ (.int .i64 (C.next + 1))) t ⟨C.ents ++ [((d, n), w1.heap.size + 1)], alSet C.dirs d (c + 1), C.uids, C.next + 1, C.nodes ++ [(w1.heap.size + 1, ⟨b', d, 1⟩)]⟩ _ rl rd ru := ⟨hR3⟩
    obtain ⟨W3, r3, H3, _⟩ := run_update_new (v := intV 0) intLaw Tryd.underlying67 T3.d.drew (okInt (I64.of (by omega))) ((mem_map_fst (encK := intV) intV_inj).2 (al_none.1 hdn2))
    have r3' : (Instr.mapUpdate 67 (.map (some rd)) (.int .i64 (C.next + 1)) (.int .i64 0)).run Tryd.prog (w2.setCell ⟨t, 3, none⟩ (.int .i64 (C.next + 1))).drew = .ok () W3 := r3
    have eC : C.added d n b' (w1.heap.size + 1) c = ⟨C.ents ++ [((d, n), w1.heap.size + 1)], alSet C.dirs d (c + 1) ++ [(C.next + 1, 0)], C.uids, C.next + 1, C.nodes ++ [(w1.heap.size + 1, ⟨b', d, 1⟩)]⟩ := by
      simp [TreeC.added, hk, hd2]
    have HW : Holds W3 (blk w1.heap.size (.cells (brnCells b' (.slice a1 b'.acl.length c1)) 37) * (treeH t (C.added d n b' (w1.heap.size + 1) c) * (X * R))) := by
      rw [star_left_comm, eC]
      refine holds_tree.2 ⟨rl, rd, ru, H3.to ?_⟩
      unfold mpD
      rw [List.map_append]
      ac_rfl
    have c3 := T2.c3
    have f3 := T2.f 3
    have c31 := T3.c1
    have c33 := T3.c3
    have d2 := (blk_cells HW) 2
    simp only [brnCells, List.getElem?_toArray, List.getElem?_cons_zero, List.getElem?_cons_succ] at d2
    have HO := Lib.hid (HW.right.to (star_left_comm _ _ _)).right
    rw [hk] at b0
    clear r3 H3 HW bx hBx ho T2 T3 hR3 hdn2 hdn eC H1 H2 HCL HT hH2 hd2
    simp only at c3
    go_wp2
    refine start_ (n := 9) (S := fun w' => w'.cell? ⟨t, 1, none⟩ = some (.map (some rd)) ∧ w'.cell? ⟨t, 3, none⟩ = some (.int .i64 (C.next + 1))) (ds := [8]) #[false, false, false, false, false, false, false, false, false] (by kernel_rfl) rfl rfl ⟨c31, c33⟩ (fun hHeld => ?_)
    refine pure_ (i := 0) (N := some 68) (v := ?_) (a' := ?_) #[true, false, false, false, false, false, false, false, false] rfl rfl (by kernel_rfl) (fun _ _ _ h => h) (Or.inl ⟨by rfl, ?_⟩) ?_ ?_
    rotate_left
    · intro w'
      go_simp
      with_reducible rfl
    rotate_left
    · simp only [Act.put, List.setIfInBounds_toArray, List.set_cons_zero, List.set_cons_succ, i64_w, i32_w]
      rfl
    refine pure_ (i := 1) (N := some 69) (v := ?_) (a' := ?_) #[true, true, false, false, false, false, false, false, false] rfl rfl (by kernel_rfl) (fun _ _ _ h => h) (Or.inl ⟨by rfl, ?_⟩) ?_ ?_
    rotate_left
    · intro w'
      go_simp
      with_reducible rfl
    rotate_left
    · simp only [Act.put, List.setIfInBounds_toArray, List.set_cons_zero, List.set_cons_succ, i64_w, i32_w]
      rfl
    refine pure_ (i := 2) (N := some 70) (v := ?_) (a' := ?_) #[true, true, true, false, false, false, false, false, false] rfl rfl (by kernel_rfl) (fun _ _ _ h => h) (Or.inl ⟨by rfl, ?_⟩) ?_ ?_
    rotate_left
    · intro w'
      go_simp
      with_reducible rfl
    rotate_left
    · simp only [Act.put, List.setIfInBounds_toArray, List.set_cons_zero, List.set_cons_succ, i64_w, i32_w]
      rfl
    refine pure_ (i := 4) (N := some 72) (v := ?_) (a' := ?_) #[true, true, true, false, true, false, false, false, false] rfl rfl (by kernel_rfl) (fun _ _ _ h => h) (Or.inl ⟨by rfl, ?_⟩) ?_ ?_
    rotate_left
    · intro w'
      go_simp
      with_reducible rfl
    rotate_left
    · simp only [Act.put, List.setIfInBounds_toArray, List.set_cons_zero, List.set_cons_succ, i64_w, i32_w]
      rfl
    refine pure_ (i := 5) (N := some 73) (v := ?_) (a' := ?_) #[true, true, true, false, true, true, false, false, false] rfl rfl (by kernel_rfl) (fun _ _ _ h => h) (Or.inl ⟨by rfl, ?_⟩) ?_ ?_
    rotate_left
    · intro w'
      go_simp
      with_reducible rfl
    rotate_left
    · simp only [Act.put, List.setIfInBounds_toArray, List.set_cons_zero, List.set_cons_succ, i64_w, i32_w]
      rfl
    refine pure_ (i := 6) (N := some 74) (v := ?_) (a' := ?_) #[true, true, true, false, true, true, true, false, false] rfl rfl (by kernel_rfl) (fun _ _ _ h => h) (Or.inl ⟨by rfl, ?_⟩) ?_ ?_
    rotate_left
    · intro w'
      go_simp
      with_reducible rfl
    rotate_left
    · simp only [Act.put, List.setIfInBounds_toArray, List.set_cons_zero, List.set_cons_succ, i64_w, i32_w]
      rfl
    refine take_ (i := 3) (N := some 71) (v := ?_) (a' := ?_) #[true, true, true, true, true, true, true, false, false] rfl rfl (by kernel_rfl) (fun _ _ _ h => h) (Or.inl ⟨by rfl, ?_⟩) hHeld ?_ ?_
    rotate_left
    · rintro w' ⟨s0, s1⟩
      go_simp
      with_reducible rfl
    rotate_left
    · simp only [Act.put, List.setIfInBounds_toArray, List.set_cons_zero, List.set_cons_succ, i64_w, i32_w]
      rfl
    refine take_ (i := 7) (N := some 75) (v := ?_) (a' := ?_) #[true, true, true, true, true, true, true, true, false] rfl rfl (by kernel_rfl) (fun _ _ _ h => h) (Or.inl ⟨by rfl, ?_⟩) hHeld ?_ ?_
    rotate_left
    · rintro w' ⟨s0, s1⟩
      go_simp
      with_reducible rfl
    rotate_left
    · simp only [Act.put, List.setIfInBounds_toArray, List.set_cons_zero, List.set_cons_succ, i64_w, i32_w]
      rfl
    refine last_ (i := 8) (N := none) #[true, true, true, true, true, true, true, true, true] rfl rfl (by kernel_rfl) (by decide) (fun K hK => ?_)
    refine skip_ (w1 := ?_) (by rfl) rfl ?_ ?_
    rotate_left
    · go_simp
      rfl
    refine hK.out _ _ ?_
    clear hK K
    refine done_ (by kernel_rfl) ?_

    go_wp2
    go_ret2
    exact ⟨_, rfl, HO.out, HFR.out⟩
  · have eC : C.added d n b' (w1.heap.size + 1) c = ⟨C.ents ++ [((d, n), w1.heap.size + 1)], alSet C.dirs d (c + 1), C.uids, C.next, C.nodes ++ [(w1.heap.size + 1, ⟨b', d, 1⟩)]⟩ := by
      simp [TreeC.added, hk]
    have HO := Lib.hid (hBx.right.to (star_left_comm _ _ _)).right
    rw [hk] at b0
    clear bx hBx ho T2 H1 H2 HCL HT hH2
    go_wp2
    go_ret2
    exact ⟨_, rfl, by rw [eC]; exact HO.out, HFR.out⟩
end
end Go.Proofs.YtapkcgmjadpdiaaDoor

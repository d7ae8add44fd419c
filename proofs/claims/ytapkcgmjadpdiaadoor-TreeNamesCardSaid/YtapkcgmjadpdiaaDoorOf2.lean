/- sdw.Of where the tree has the segment. -/
import Derived.Test.YtapkcgmjadpdiaaDoorOf
namespace Go.Proofs.YtapkcgmjadpdiaaDoor
set_option linter.unusedVariables false
set_option linter.unusedSimpArgs false
open Go.RowKit Go.Maps Go.Sp Go.Proofs.YtapkcgmjadpdiaaDoorW.PrintLast
section
variable {w : World} {t s : Nat} {C : TreeC} {Q : StoreC} {R : HProp}

set_option maxRecDepth 100000 in
set_option maxHeartbeats 2000000 in
theorem of_gone (h : Holds w (treeH t C * (storeH s Q * R))) {u : Int} (hu : I64 u) (user : ByteArray) {nb : Nat} (hf : alGet C.uids u = some nb) {x : Nod} (hx : alGet C.nodes nb = some x) (hn : x.b.acl.length < 4294967296) (hs0 : alGet Q.segs u = none) :
    Calls Tryd.prog 12 #[.pointer (some ⟨t, 0, none⟩), .pointer (some ⟨s, 0, none⟩), .int .i64 u, .string user] w fun e w' => e = .returned (.tuple #[sdw0.agg, .int .i64 4]) ∧ Holds w' (treeH t C * (storeH s Q * R)) ∧ Below w.heap.size w w' := by
  have hA := (h.alloc (.cells (sdwCells sdw0) 40)).to (star_left_comm _ _ _)
  have hBA : Below w.heap.size w (w.alloc (.cells (sdwCells sdw0) 40)) := (Below.refl _ _).alloc (Nat.le_refl _) _
  have hb := byuid_some hA hu hf hx hn
  simp only [sdwCells, sdw0, flg0] at hb hA hBA
  have HB := Lib.hid hb
  have HBA := Lib.hid hBA
  have HS0 := Lib.hid hs0
  clear hb hA hf h hBA hs0 hx hn
  go_enter Tryd.func12, Tryd.ntmps12
  go_wp2_with fail
  refine HB.out.mono ?_
  rintro e w1 ⟨v1, rfl, hH, hB⟩
  obtain ⟨a1, c1, rfl, _⟩ := Holds.own_slice hH
  have h1 := hH.alloc (.cells (brnCells x.b (.slice a1 x.b.acl.length c1)) 37)
  have h2 := h1.to (Q := storeH s Q * (treeH t C * (blk w1.heap.size _ * (aclH (.slice a1 x.b.acl.length c1) x.b.acl * (blk w.heap.size _ * R))))) (by ac_rfl)
  have hs := size_any h2 hu
  simp only [StoreC.err, HS0.out, brnCells] at hs
  have HS := Lib.hid hs
  have hB1 := (HBA.out.trans (hB.mono HBA.out.size)).alloc (Nat.le_trans HBA.out.size hB.size) (.cells (brnCells x.b (.slice a1 x.b.acl.length c1)) 37)
  clear hs hB h1 hH
  unfold Brn.agg
  go_wp2_with fail
  refine HS.out.mono ?_
  rintro e w2 ⟨rfl, rfl⟩
  have h3 := h2.to (Q := blk w.heap.size (.cells #[.int .i64 0, .int .i64 0, .bool false, .bool false, .bool false, .int .i64 0, .int .i64 0, .int .i64 0, .int .i64 0] 40) * (blk w1.heap.size _ * (aclH (.slice a1 x.b.acl.length c1) x.b.acl * (treeH t C * (storeH s Q * R))))) (by ac_rfl)
  have hk := blk_cells h3
  have hq := blk_free h3
  have HE := Lib.hid (holds_setSdw h3 rfl sdw0)
  have HB2 := Lib.hid (below_setSdw hB1 (Nat.le_refl _) sdw0)
  clear h2 h3 hB1
  simp only [brnCells] at hk hq HE HB2
  go_wp2
  exact ret_sdw (y := sdw0) (i := 8) (j := 9) rfl rfl rfl rfl HE.out.get ⟨rfl, HE.out.right.right.right, HB2.out⟩

theorem below_alloc' (w3 : World) (o : Obj) : Below w3.heap.size w3 (w3.alloc o) := (Below.refl _ _).alloc (Nat.le_refl _) _
def sdwOf (u : Int) (n : Nat) (b : Brn) (user : ByteArray) : SdwS :=
  ⟨u, n, ⟨(flagsB b.acl user).r, if b.obj then false else (flagsB b.acl user).w, (flagsB b.acl user).e⟩, b.b⟩

set_option maxRecDepth 100000 in
set_option maxHeartbeats 4000000 in
theorem of_ok (h : Holds w (treeH t C * (storeH s Q * R))) {u : Int} (hu : I64 u) (user : ByteArray) {nb : Nat} (hf : alGet C.uids u = some nb) {x : Nod} (hx : alGet C.nodes nb = some x) (hn : x.b.acl.length < 4294967296) (hus : ∀ t ∈ x.b.acl, t.user.size ≤ maxLen)
    {sg : Seg} (hs0 : alGet Q.segs u = some sg) :
    Calls Tryd.prog 12 #[.pointer (some ⟨t, 0, none⟩), .pointer (some ⟨s, 0, none⟩), .int .i64 u, .string user] w fun e w' => e = .returned (.tuple #[(sdwOf u sg.ws.length x.b user).agg, .int .i64 0]) ∧ Holds w' (treeH t C * (storeH s Q * R)) ∧ Below w.heap.size w w' := by
  have hA := (h.alloc (.cells (sdwCells sdw0) 40)).to (star_left_comm _ _ _)
  have hBA : Below w.heap.size w (w.alloc (.cells (sdwCells sdw0) 40)) := (Below.refl _ _).alloc (Nat.le_refl _) _
  have hb := byuid_some hA hu hf hx hn
  simp only [sdwCells, sdw0, flg0] at hb hA hBA
  have HB := Lib.hid hb
  have HBA := Lib.hid hBA
  have HS0 := Lib.hid hs0
  have HN := Lib.hid hn
  clear hb hA hf h hBA hs0 hx hn
  go_enter Tryd.func12, Tryd.ntmps12
  go_wp2_with fail
  refine HB.out.mono ?_
  rintro e w1 ⟨v1, rfl, hH, hB⟩
  obtain ⟨a1, c1, rfl, _⟩ := Holds.own_slice hH
  have h1 := hH.alloc (.cells (brnCells x.b (.slice a1 x.b.acl.length c1)) 37)
  have h2 := h1.to (Q := storeH s Q * (treeH t C * (blk w1.heap.size _ * (aclH (.slice a1 x.b.acl.length c1) x.b.acl * (blk w.heap.size _ * R))))) (by ac_rfl)
  have hs := size_any h2 hu
  simp only [StoreC.err, StoreC.len, HS0.out, Option.isSome_some, if_true, brnCells] at hs
  have HS := Lib.hid hs
  have hB1 := (HBA.out.trans (hB.mono HBA.out.size)).alloc (Nat.le_trans HBA.out.size hB.size) (.cells (brnCells x.b (.slice a1 x.b.acl.length c1)) 37)
  have hz1 : w.heap.size < w1.heap.size := Nat.lt_of_lt_of_le (by simp) hB.size
  clear hs hB h1 hH
  unfold Brn.agg
  go_wp2_with fail
  refine HS.out.mono ?_
  rintro e w2 ⟨rfl, rfl⟩
  have h3 := h2.to (Q := blk w1.heap.size (.cells (brnCells x.b (.slice a1 x.b.acl.length c1)) 37) * (aclH (.slice a1 x.b.acl.length c1) x.b.acl * (blk w.heap.size (.cells #[.int .i64 0, .int .i64 0, .bool false, .bool false, .bool false, .int .i64 0, .int .i64 0, .int .i64 0, .int .i64 0] 40) * (treeH t C * (storeH s Q * R))))) (by ac_rfl)
  have hkb := blk_cells h3
  have hr := Holds.reads (h3.to (star_left_comm _ _ _))
  have b4 := hkb 4
  have b5 := hkb 5
  have b6 := hkb 6
  have b7 := hkb 7
  have b8 := hkb 8
  have b9 := hkb 9
  have hlt : w1.heap.size < (w1.alloc (.cells (brnCells x.b (.slice a1 x.b.acl.length c1)) 37)).heap.size := by simp
  clear hkb h2
  obtain ⟨W, hW⟩ : ∃ W, W = w1.alloc (.cells (brnCells x.b (.slice a1 x.b.acl.length c1)) 37) := ⟨_, rfl⟩
  rw [← hW] at h3 hr b4 b5 b6 b7 b8 b9 hB1 hlt
  simp only [brnCells, List.getElem?_toArray, List.getElem?_cons_zero, List.getElem?_cons_succ] at b4 b5 b6 b7 b8 b9 hW
  have hfind := fun (W' : World) (hB' : Below W.heap.size W W') => find_any (.slice a1 x.b.acl.length c1) x.b.acl user W' (hr.below hB') hus
  have HFI := Lib.hid hfind
  clear hfind hr
  generalize hfl : flagsB x.b.acl user = fl at HFI
  have HFL := Lib.hid hfl
  clear hfl
  unfold Flg.agg at HFI
  go_wp2
  rw [← hW]
  clear hW
  refine start_ (n := 11) (S := fun w' => w'.cell? ⟨w1.heap.size, 5, none⟩ = some (.slice a1 x.b.acl.length c1) ∧ w'.cell? ⟨w1.heap.size, 6, none⟩ = some (.int .i64 x.b.b.r1) ∧ w'.cell? ⟨w1.heap.size, 7, none⟩ = some (.int .i64 x.b.b.r2) ∧ w'.cell? ⟨w1.heap.size, 8, none⟩ = some (.int .i64 x.b.b.r3) ∧ w'.cell? ⟨w1.heap.size, 9, none⟩ = some (.int .i64 x.b.b.gates)) (ds := [10]) #[false, false, false, false, false, false, false, false, false, false, false] (by kernel_rfl) rfl rfl ⟨b5, b6, b7, b8, b9⟩ (fun hHeld => ?_)
  refine pure_ (i := 0) (N := some 41) (v := ?_) (a' := ?_) #[true, false, false, false, false, false, false, false, false, false, false] rfl rfl (by kernel_rfl) (fun _ _ _ h => h) (Or.inl ⟨by rfl, ?_⟩) ?_ ?_
  rotate_left
  · intro w'
    go_simp
    with_reducible rfl
  rotate_left
  · simp only [Act.put, List.setIfInBounds_toArray, List.set_cons_zero, List.set_cons_succ, i64_w, i32_w]
    rfl
  refine pure_ (i := 1) (N := some 42) (v := ?_) (a' := ?_) #[true, true, false, false, false, false, false, false, false, false, false] rfl rfl (by kernel_rfl) (fun _ _ _ h => h) (Or.inl ⟨by rfl, ?_⟩) ?_ ?_
  rotate_left
  · intro w'
    go_simp
    with_reducible rfl
  rotate_left
  · simp only [Act.put, List.setIfInBounds_toArray, List.set_cons_zero, List.set_cons_succ, i64_w, i32_w]
    rfl
  refine pure_ (i := 2) (N := some 43) (v := ?_) (a' := ?_) #[true, true, true, false, false, false, false, false, false, false, false] rfl rfl (by kernel_rfl) (fun _ _ _ h => h) (Or.inl ⟨by rfl, ?_⟩) ?_ ?_
  rotate_left
  · intro w'
    go_simp
    with_reducible rfl
  rotate_left
  · simp only [Act.put, List.setIfInBounds_toArray, List.set_cons_zero, List.set_cons_succ, i64_w, i32_w]
    rfl
  refine pure_ (i := 4) (N := some 45) (v := ?_) (a' := ?_) #[true, true, true, false, true, false, false, false, false, false, false] rfl rfl (by kernel_rfl) (fun _ _ _ h => h) (Or.inl ⟨by rfl, ?_⟩) ?_ ?_
  rotate_left
  · intro w'
    go_simp
    with_reducible rfl
  rotate_left
  · simp only [Act.put, List.setIfInBounds_toArray, List.set_cons_zero, List.set_cons_succ, i64_w, i32_w]
    rfl
  refine pure_ (i := 6) (N := some 47) (v := ?_) (a' := ?_) #[true, true, true, false, true, false, true, false, false, false, false] rfl rfl (by kernel_rfl) (fun _ _ _ h => h) (Or.inl ⟨by rfl, ?_⟩) ?_ ?_
  rotate_left
  · intro w'
    go_simp
    with_reducible rfl
  rotate_left
  · simp only [Act.put, List.setIfInBounds_toArray, List.set_cons_zero, List.set_cons_succ, i64_w, i32_w]
    rfl
  refine take_ (i := 3) (N := some 44) (v := ?_) (a' := ?_) #[true, true, true, true, true, false, true, false, false, false, false] rfl rfl (by kernel_rfl) (fun _ _ _ h => h) (Or.inl ⟨by rfl, ?_⟩) hHeld ?_ ?_
  rotate_left
  · rintro w' ⟨s0, s1, s2, s3, s4⟩
    go_simp
    with_reducible rfl
  rotate_left
  · simp only [Act.put, List.setIfInBounds_toArray, List.set_cons_zero, List.set_cons_succ, i64_w, i32_w]
    rfl
  refine take_ (i := 7) (N := some 48) (v := ?_) (a' := ?_) #[true, true, true, true, true, false, true, true, false, false, false] rfl rfl (by kernel_rfl) (fun _ _ _ h => h) (Or.inl ⟨by rfl, ?_⟩) hHeld ?_ ?_
  rotate_left
  · rintro w' ⟨s0, s1, s2, s3, s4⟩
    go_simp
    with_reducible rfl
  rotate_left
  · simp only [Act.put, List.setIfInBounds_toArray, List.set_cons_zero, List.set_cons_succ, i64_w, i32_w]
    rfl
  refine join_ (σ := Nat) 1 #[true, true, true, true, true, true, true, true, true, true, false] (fun g => [(46, .agg #[.bool fl.r, .bool fl.w, .bool fl.e]), (49, .agg #[.int .i64 u, .int .i64 ↑sg.ws.length, .bool fl.r, .bool fl.w, .bool fl.e, .int .i64 x.b.b.r1, .int .i64 x.b.b.r2, .int .i64 x.b.b.r3, .int .i64 x.b.b.gates]), (14, .pointer (some ⟨g, 0, none⟩))]) (fun g w' => Holds w' (blk g (.cells #[.int .i64 0, .int .i64 0, .bool false, .bool false, .bool false, .int .i64 0, .int .i64 0, .int .i64 0, .int .i64 0] 40) * (blk w1.heap.size (.cells (brnCells x.b (.slice a1 x.b.acl.length c1)) 37) * (aclH (.slice a1 x.b.acl.length c1) x.b.acl * (blk w.heap.size (.cells #[.int .i64 0, .int .i64 0, .bool false, .bool false, .bool false, .int .i64 0, .int .i64 0, .int .i64 0, .int .i64 0] 40) * (treeH t C * (storeH s Q * R)))))) ∧ Below W.heap.size W w' ∧ w1.heap.size < w'.heap.size ∧ w.heap.size ≤ g) ?_ ?_
  rotate_left
  · intro hCont
    refine two_ (i := 5) (j := 9) (Ni := some 46) (Nj := some 14) #[true, true, true, true, true, true, true, true, false, false, false] #[true, true, true, true, true, false, true, true, false, true, false] rfl rfl rfl rfl (by kernel_rfl) (by decide) (by decide) (fun K hK => ?_) (fun K hK => ?_)
    · skip
      refine goes_ Tryd.func33 (by kernel_rfl) rfl #[.slice a1 x.b.acl.length c1, .string user] (by rfl) rfl rfl (by simp only [List.map_toArray, List.map_cons, List.map_nil]; rfl) ?_
      with_reducible refine (HFI.out _ ((Below.refl _ _).drew)).mono ?_
      rintro e w3 ⟨rfl, hb3⟩
      refine ⟨_, rfl, ?_⟩
      refine hK.out _ _ ⟨((hb3.cell (p := ⟨w1.heap.size, 5, none⟩) hlt).trans b5), ((hb3.cell (p := ⟨w1.heap.size, 6, none⟩) hlt).trans b6), ((hb3.cell (p := ⟨w1.heap.size, 7, none⟩) hlt).trans b7), ((hb3.cell (p := ⟨w1.heap.size, 8, none⟩) hlt).trans b8), ((hb3.cell (p := ⟨w1.heap.size, 9, none⟩) hlt).trans b9)⟩ (fun hHeld => ?_)
      clear hK K
      refine norm_ (a' := ?_) ?_ ?_
      rotate_left
      · show Act.put _ (some 46) _ = _
        simp only [Act.put, List.setIfInBounds_toArray, List.set_cons_zero, List.set_cons_succ, i64_w, i32_w]
        rfl
      refine pure_ (i := 8) (N := some 49) (v := ?_) (a' := ?_) #[true, true, true, true, true, true, true, true, true, false, false] rfl rfl (by kernel_rfl) (fun _ _ _ h => h) (Or.inl ⟨by rfl, ?_⟩) ?_ ?_
      rotate_left
      · intro w'
        go_simp
        with_reducible rfl
      rotate_left
      · simp only [Act.put, List.setIfInBounds_toArray, List.set_cons_zero, List.set_cons_succ, i64_w, i32_w]
        rfl
      refine one_ (i := 9) (N := some 14) #[true, true, true, true, true, true, true, true, true, true, false] rfl rfl (by kernel_rfl) (by decide) (fun K hK => ?_)
      refine value_ (w1 := ?_) (v := ?_) (by rfl) rfl ?_ ?_
      rotate_left 2
      · go_simp
        constructor
        · rfl
        · rfl
      refine hK.out _ _ ⟨((below_alloc' w3 _).cell (p := ⟨w1.heap.size, 5, none⟩) (Nat.lt_of_lt_of_le hlt hb3.size) |>.trans ((hb3.cell (p := ⟨w1.heap.size, 5, none⟩) hlt).trans b5)), ((below_alloc' w3 _).cell (p := ⟨w1.heap.size, 6, none⟩) (Nat.lt_of_lt_of_le hlt hb3.size) |>.trans ((hb3.cell (p := ⟨w1.heap.size, 6, none⟩) hlt).trans b6)), ((below_alloc' w3 _).cell (p := ⟨w1.heap.size, 7, none⟩) (Nat.lt_of_lt_of_le hlt hb3.size) |>.trans ((hb3.cell (p := ⟨w1.heap.size, 7, none⟩) hlt).trans b7)), ((below_alloc' w3 _).cell (p := ⟨w1.heap.size, 8, none⟩) (Nat.lt_of_lt_of_le hlt hb3.size) |>.trans ((hb3.cell (p := ⟨w1.heap.size, 8, none⟩) hlt).trans b8)), ((below_alloc' w3 _).cell (p := ⟨w1.heap.size, 9, none⟩) (Nat.lt_of_lt_of_le hlt hb3.size) |>.trans ((hb3.cell (p := ⟨w1.heap.size, 9, none⟩) hlt).trans b9))⟩ (fun hHeld => ?_)
      clear hK K
      refine norm_ (a' := ?_) ?_ ?_
      rotate_left
      · show Act.put _ (some 14) _ = _
        simp only [Act.put, List.setIfInBounds_toArray, List.set_cons_zero, List.set_cons_succ, i64_w, i32_w]
        rfl
      exact norm_ (by simp only [putAll, Act.put, List.setIfInBounds_toArray, List.set_cons_zero, List.set_cons_succ]) (hCont w3.heap.size _ ⟨(h3.drew.below hb3).alloc _, ((Below.refl _ _).drew.trans (hb3.mono (Nat.le_refl _))).alloc hb3.size _, Nat.lt_of_lt_of_le hlt (by have := hb3.size; simp at this ⊢; omega), Nat.le_trans (Nat.le_of_lt (Nat.lt_trans hz1 hlt)) (by have := hb3.size; simpa using this)⟩)
    · skip
      refine value_ (w1 := ?_) (v := ?_) (by rfl) rfl ?_ ?_
      rotate_left 2
      · go_simp
        constructor
        · rfl
        · rfl
      refine hK.out _ _ ⟨(by go_simp), (by go_simp), (by go_simp), (by go_simp), (by go_simp)⟩ (fun hHeld => ?_)
      clear hK K
      refine norm_ (a' := ?_) ?_ ?_
      rotate_left
      · show Act.put _ (some 14) _ = _
        simp only [Act.put, List.setIfInBounds_toArray, List.set_cons_zero, List.set_cons_succ, i64_w, i32_w]
        rfl
      refine one_ (i := 5) (N := some 46) #[true, true, true, true, true, true, true, true, false, true, false] rfl rfl (by kernel_rfl) (by decide) (fun K hK => ?_)
      refine goes_ Tryd.func33 (by kernel_rfl) rfl #[.slice a1 x.b.acl.length c1, .string user] (by rfl) rfl rfl (by simp only [List.map_toArray, List.map_cons, List.map_nil]; rfl) ?_
      with_reducible refine (HFI.out _ (((Below.refl _ _).alloc (Nat.le_refl _) _).drew)).mono ?_
      rintro e w3 ⟨rfl, hb3⟩
      refine ⟨_, rfl, ?_⟩
      refine hK.out _ _ ⟨((hb3.cell (p := ⟨w1.heap.size, 5, none⟩) (Nat.lt_of_lt_of_le hlt (by simp))).trans (by go_simp)), ((hb3.cell (p := ⟨w1.heap.size, 6, none⟩) (Nat.lt_of_lt_of_le hlt (by simp))).trans (by go_simp)), ((hb3.cell (p := ⟨w1.heap.size, 7, none⟩) (Nat.lt_of_lt_of_le hlt (by simp))).trans (by go_simp)), ((hb3.cell (p := ⟨w1.heap.size, 8, none⟩) (Nat.lt_of_lt_of_le hlt (by simp))).trans (by go_simp)), ((hb3.cell (p := ⟨w1.heap.size, 9, none⟩) (Nat.lt_of_lt_of_le hlt (by simp))).trans (by go_simp))⟩ (fun hHeld => ?_)
      clear hK K
      refine norm_ (a' := ?_) ?_ ?_
      rotate_left
      · show Act.put _ (some 46) _ = _
        simp only [Act.put, List.setIfInBounds_toArray, List.set_cons_zero, List.set_cons_succ, i64_w, i32_w]
        rfl
      refine pure_ (i := 8) (N := some 49) (v := ?_) (a' := ?_) #[true, true, true, true, true, true, true, true, true, true, false] rfl rfl (by kernel_rfl) (fun _ _ _ h => h) (Or.inl ⟨by rfl, ?_⟩) ?_ ?_
      rotate_left
      · intro w'
        go_simp
        with_reducible rfl
      rotate_left
      · simp only [Act.put, List.setIfInBounds_toArray, List.set_cons_zero, List.set_cons_succ, i64_w, i32_w]
        rfl
      exact norm_ (by simp only [putAll, Act.put, List.setIfInBounds_toArray, List.set_cons_zero, List.set_cons_succ]) (hCont W.heap.size _ ⟨(h3.drew.alloc _).below hb3, (((Below.refl _ _).drew.alloc (Nat.le_refl _) _).trans (hb3.mono (by simp))), Nat.lt_of_lt_of_le hlt (by have := hb3.size; simp at this ⊢; omega), Nat.le_of_lt (Nat.lt_trans hz1 hlt)⟩)
  rintro g w9 ⟨hH9, hB9, hlt9, hge9⟩
  have hE9 := hH9.to (star_left_comm _ _ _)
  have hk9 := blk_cells hE9
  have hHeld : w9.cell? ⟨w1.heap.size, 5, none⟩ = some (.slice a1 x.b.acl.length c1) ∧ w9.cell? ⟨w1.heap.size, 6, none⟩ = some (.int .i64 x.b.b.r1) ∧ w9.cell? ⟨w1.heap.size, 7, none⟩ = some (.int .i64 x.b.b.r2) ∧ w9.cell? ⟨w1.heap.size, 8, none⟩ = some (.int .i64 x.b.b.r3) ∧ w9.cell? ⟨w1.heap.size, 9, none⟩ = some (.int .i64 x.b.b.gates) := ⟨((hB9.cell (p := ⟨w1.heap.size, 5, none⟩) hlt).trans b5), ((hB9.cell (p := ⟨w1.heap.size, 6, none⟩) hlt).trans b6), ((hB9.cell (p := ⟨w1.heap.size, 7, none⟩) hlt).trans b7), ((hB9.cell (p := ⟨w1.heap.size, 8, none⟩) hlt).trans b8), ((hB9.cell (p := ⟨w1.heap.size, 9, none⟩) hlt).trans b9)⟩
  have hz := blk_cells hH9
  have hzf := blk_free hH9
  refine norm_ (a' := ?_) ?_ ?_
  rotate_left
  · simp only [putAll, Act.put, List.setIfInBounds_toArray, List.set_cons_zero, List.set_cons_succ]
    rfl
  refine last_ (i := 10) (N := none) #[true, true, true, true, true, true, true, true, true, true, true] rfl rfl (by kernel_rfl) (by decide) (fun K hK => ?_)
  refine skip_ (w1 := ?_) (by rfl) rfl ?_ ?_
  rotate_left
  · go_simp
    rfl
  refine hK.out _ _ ?_
  clear hK K
  refine done_ (by kernel_rfl) ?_

  have hS := holds_setSdw hH9 rfl ⟨u, sg.ws.length, fl, x.b.b⟩
  have hSb := below_setSdw (hB1.trans (hB9.mono hB1.size)) hge9 ⟨u, sg.ws.length, fl, x.b.b⟩
  have kg := blk_cells hS
  have kf := blk_free hS
  have hS1 := hS.to (star_left_comm _ _ _)
  have k1 := blk_cells hS1 4
  have hSA := hS.to (Q := blk w.heap.size (.cells #[.int .i64 0, .int .i64 0, .bool false, .bool false, .bool false, .int .i64 0, .int .i64 0, .int .i64 0, .int .i64 0] 40) * (blk g (.cells (sdwCells ⟨u, sg.ws.length, fl, x.b.b⟩) 40) * (blk w1.heap.size (.cells (brnCells x.b (.slice a1 x.b.acl.length c1)) 37) * (aclH (.slice a1 x.b.acl.length c1) x.b.acl * (treeH t C * (storeH s Q * R)))))) (by ac_rfl)
  have kA := blk_cells hSA
  have kAf := blk_free hSA
  have hgA : w.heap.size ≠ g := hSA.ne
  simp only [brnCells, List.getElem?_toArray, List.getElem?_cons_zero, List.getElem?_cons_succ] at k1
  have HSA := Lib.hid hSA
  have HSb := Lib.hid hSb
  simp only [sdwCells] at kg
  unfold setSdw at kg kf k1 kA kAf
  clear hS hS1 hSA hSb hH9 hE9 hk9 hHeld hz hzf hB9
  have hAg : g ≠ w.heap.size := fun e => hgA e.symm
  cases hob : x.b.obj with
  | true =>
    rw [hob] at k1
    have hSA2 := (HSA.out.to (star_left_comm _ _ _)).setCell (i := 3) (.bool false)
    have hSA3 : Holds _ (blk g (.cells (sdwCells ⟨u, sg.ws.length, ⟨fl.r, false, fl.e⟩, x.b.b⟩) 40 (0, 0)) * _) := hSA2
    have hE := holds_setSdw (hSA3.to (star_left_comm _ _ _)) rfl ⟨u, sg.ws.length, ⟨fl.r, false, fl.e⟩, x.b.b⟩
    have HE := Lib.hid hE
    have HB9 := Lib.hid (below_setSdw (HSb.out.setCell (p := ⟨g, 3, none⟩) hge9 (.bool false)) (Nat.le_refl _) ⟨u, sg.ws.length, ⟨fl.r, false, fl.e⟩, x.b.b⟩)
    have hy : sdwOf u sg.ws.length x.b user = ⟨u, sg.ws.length, ⟨fl.r, false, fl.e⟩, x.b.b⟩ := by simp [sdwOf, hob, HFL.out]
    have HY := Lib.hid hy
    clear hSA2 hSA3 hE hy
    go_wp2
    exact ret_sdw (y := ⟨u, sg.ws.length, ⟨fl.r, false, fl.e⟩, x.b.b⟩) (i := 8) (j := 9) rfl rfl rfl rfl HE.out.get ⟨by rw [HY.out]; rfl, HE.out.right.right.right.right, HB9.out⟩
  | false =>
    rw [hob] at k1
    have hE := holds_setSdw HSA.out rfl ⟨u, sg.ws.length, fl, x.b.b⟩
    have HE := Lib.hid hE
    have HB9 := Lib.hid (below_setSdw HSb.out (Nat.le_refl _) ⟨u, sg.ws.length, fl, x.b.b⟩)
    have hy : sdwOf u sg.ws.length x.b user = ⟨u, sg.ws.length, fl, x.b.b⟩ := by simp [sdwOf, hob, HFL.out]
    have HY := Lib.hid hy
    clear hE hy
    go_wp2
    exact ret_sdw (y := ⟨u, sg.ws.length, fl, x.b.b⟩) (i := 8) (j := 9) rfl rfl rfl rfl HE.out.get ⟨by rw [HY.out]; rfl, HE.out.right.right.right.right, HB9.out⟩
end
end Go.Proofs.YtapkcgmjadpdiaaDoor

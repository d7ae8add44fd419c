/- The hierarchy: new, what a number is, access and brackets. -/
import Derived.Test.YtapkcgmjadpdiaaDoorTw5
namespace Go.Proofs.YtapkcgmjadpdiaaDoor
set_option linter.unusedVariables false
set_option linter.unusedSimpArgs false
open Go.RowKit Go.Maps Go.Sp Go.Proofs.YtapkcgmjadpdiaaDoorW.PrintLast

section
variable {w : World} {t : Nat} {C : TreeC} {R : HProp}

theorem out_tree (h : Holds w (treeH t C * R)) {nb : Nat} {x : Nod} (hx : alGet C.nodes nb = some x) (hn : x.b.acl.length < 4294967296) :
    Calls Tryd.prog 42 #[.pointer (some ⟨nb, 0, none⟩)] w fun e w' => ∃ v, e = .returned (.tuple #[x.b.agg v, .bool true]) ∧ Holds w' (aclH v x.b.acl * (treeH t C * R)) ∧ Below w.heap.size w w' := by
  obtain ⟨rl, rd, ru, ho⟩ := holds_tree.1 h
  obtain ⟨n1, n2, av, _, _, hN⟩ := nod_front (C := C) (TreeAt.n ⟨ho⟩) hx
  have hl := hN.lt
  have hb := nod_at hN
  have hA := hN.to (star_left_comm _ _ _)
  obtain ⟨aa, cc, rfl, _⟩ := Holds.own_slice hA
  exact out_some h hb hl (Holds.reads hA) hn

def zeroBrn : Value := .agg #[.int .i64 0, .int .i64 0, .int .i64 0, .string ⟨#[]⟩, .bool false, .slice none 0 0, .int .i64 0, .int .i64 0, .int .i64 0, .int .i64 0]
theorem zeroBrn_eq : zeroBrn = brn0.agg (.slice none 0 0) := rfl

set_option maxRecDepth 100000 in
set_option maxHeartbeats 1000000 in
theorem byuid_none (h : Holds w (treeH t C * R)) {u : Int} (hu : I64 u) (hf : alGet C.uids u = none) :
    Calls Tryd.prog 23 #[.pointer (some ⟨t, 0, none⟩), .int .i64 u] w fun e w' => e = .returned (.tuple #[zeroBrn, .bool false]) ∧ Holds w' (treeH t C * R) ∧ Below w.heap.size w w' := by
  obtain ⟨rl, rd, ru, ho⟩ := holds_tree.1 h
  have hA := h.alloc (.cells (brnCells brn0 (.slice none 0 0)) 37)
  have hA' := hA.to (star_left_comm _ _ _)
  obtain ⟨rl, rd, ru, ho⟩ := holds_tree.1 hA'
  have c2 := TreeAt.c2 (C := C) ⟨ho⟩
  have l2 := TreeAt.lookU (C := C) ⟨ho⟩ hu
  rw [hf] at l2
  simp only [optP] at l2
  simp only [brnCells, brn0] at c2 l2
  have HA := Lib.hid hA
  clear ho hA hA' h
  go_enter Tryd.func23, Tryd.ntmps23
  go_wp2_with fail
  refine (out_nil _).mono ?_
  rintro e w1 ⟨rfl, hB⟩
  obtain ⟨hc, hf⟩ := bcell hB
  have h1 := HA.out.below hB
  have HE := Lib.hid (holds_setBrn h1 rfl brn0 (.slice none 0 0))
  have hB0 : Below w.heap.size w w1 := ((Below.refl _ _).alloc (Nat.le_refl _) _).trans (hB.mono (by simp))
  have HB := Lib.hid (below_setBrn hB0 (Nat.le_refl _) brn0 (.slice none 0 0))
  clear h1 hB hB0
  go_wp2
  exact ret_branch (b := brn0) (i := 4) (j := 5) rfl rfl rfl rfl HE.out.get ⟨rfl, HE.out.right, HB.out⟩

set_option maxRecDepth 100000 in
set_option maxHeartbeats 1000000 in
theorem byuid_some (h : Holds w (treeH t C * R)) {u : Int} (hu : I64 u) {nb : Nat} (hf : alGet C.uids u = some nb) {x : Nod} (hx : alGet C.nodes nb = some x) (hn : x.b.acl.length < 4294967296) :
    Calls Tryd.prog 23 #[.pointer (some ⟨t, 0, none⟩), .int .i64 u] w fun e w' => ∃ v, e = .returned (.tuple #[x.b.agg v, .bool true]) ∧ Holds w' (aclH v x.b.acl * (treeH t C * R)) ∧ Below w.heap.size w w' := by
  have hA := h.alloc (.cells (brnCells brn0 (.slice none 0 0)) 37)
  have hA' := hA.to (star_left_comm _ _ _)
  obtain ⟨rl, rd, ru, ho⟩ := holds_tree.1 hA'
  have c2 := TreeAt.c2 (C := C) ⟨ho⟩
  have l2 := TreeAt.lookU (C := C) ⟨ho⟩ hu
  rw [hf] at l2
  simp only [optP] at l2
  simp only [brnCells, brn0] at c2 l2
  have HA := Lib.hid hA'
  have HN := Lib.hid hn
  have HX := Lib.hid hx
  clear ho hA hA' h hn hx
  go_enter Tryd.func23, Tryd.ntmps23
  go_wp2_with fail
  refine (out_tree HA.out HX.out HN.out).mono ?_
  rintro e w1 ⟨v1, rfl, hH, hB⟩
  obtain ⟨a1, c1, rfl, _⟩ := Holds.own_slice hH
  have h1 := hH.to (Q := blk w.heap.size (.cells (brnCells brn0 (.slice none 0 0)) 37) * (aclH (.slice a1 x.b.acl.length c1) x.b.acl * (treeH t C * R))) (by ac_rfl)
  have hk := blk_cells h1
  have hq := blk_free h1
  simp only [brnCells, brn0] at hk
  have HE := Lib.hid (holds_setBrn h1 rfl x.b (.slice a1 x.b.acl.length c1))
  have hB0 : Below w.heap.size w w1 := ((Below.refl _ _).alloc (Nat.le_refl _) _).trans (hB.mono (by simp))
  have HB := Lib.hid (below_setBrn hB0 (Nat.le_refl _) x.b (.slice a1 x.b.acl.length c1))
  clear h1 hB hB0 hH
  unfold Brn.agg
  go_wp2
  exact ret_branch (b := x.b) (i := 4) (j := 5) rfl rfl rfl rfl HE.out.get ⟨_, rfl, HE.out.right, HB.out⟩

theorem segment_none (h : Holds w (treeH t C * R)) {d : Int} {n : ByteArray} (hd : I64 d) (hn : n.size ≤ maxLen) (hf : C.find d n = none) :
    Calls Tryd.prog 34 #[.pointer (some ⟨t, 0, none⟩), .int .i64 d, .string n] w fun e w' => e = .returned (.tuple #[.pointer none, .int .i64 4]) ∧ w = w' := by
  have hg := get_any h hd hn
  rw [hf] at hg
  have HG := Lib.hid hg
  clear hg hf h
  go_enter Tryd.func34, Tryd.ntmps34
  go_wp2_with fail
  refine HG.out.mono ?_
  rintro e w' ⟨rfl, rfl⟩
  simp only [optP]
  go_wp2_with fail
  refine (none_any _ _).mono ?_
  rintro e w' ⟨rfl, rfl⟩
  go_wp2
  go_ret2
  exact ⟨rfl, rfl⟩
theorem segment_some (h : Holds w (treeH t C * R)) {d : Int} {n : ByteArray} (hd : I64 d) (hn : n.size ≤ maxLen) {nb : Nat} (hf : C.find d n = some nb) {x : Nod} (hx : alGet C.nodes nb = some x) :
    Calls Tryd.prog 34 #[.pointer (some ⟨t, 0, none⟩), .int .i64 d, .string n] w fun e w' => e = .returned (.tuple #[if x.b.kind = 1 then ptrV nb else .pointer none, .int .i64 (if x.b.kind = 1 then 0 else 15)]) ∧ w = w' := by
  have hg := get_any h hd hn
  rw [hf] at hg
  obtain ⟨rl, rd, ru, ho⟩ := holds_tree.1 h
  obtain ⟨n1, n2, av, _, _, hN⟩ := nod_front (C := C) (TreeAt.n ⟨ho⟩) hx
  have k0 := (nod_at hN).k0
  have HG := Lib.hid hg
  clear hg hf h ho hN hx
  by_cases hk : x.b.kind = 1
  · simp only [hk, if_true] at k0 ⊢
    go_enter Tryd.func34, Tryd.ntmps34
    go_wp2_with fail
    refine HG.out.mono ?_
    rintro e w' ⟨rfl, rfl⟩
    simp only [optP, ptrV]
    go_wp2
    go_ret2
    exact ⟨rfl, rfl⟩
  · simp only [hk, if_false]
    have hk' : (x.b.kind != 1) = true := by simpa using hk
    generalize x.b.kind = kk at k0 hk'
    go_enter Tryd.func34, Tryd.ntmps34
    go_wp2_with fail
    refine HG.out.mono ?_
    rintro e w' ⟨rfl, rfl⟩
    simp only [optP, ptrV]
    go_wp2
    go_ret2
    exact ⟨rfl, rfl⟩

/-- A tree, one of whose branches is turned. -/
def TreeC.turn (C : TreeC) (nb : Nat) (x : Nod) : TreeC := { C with nodes := alSet C.nodes nb x }

set_option maxRecDepth 100000 in
set_option maxHeartbeats 1000000 in
theorem ringed_ok (h : Holds w (treeH t C * R)) {d : Int} {n : ByteArray} (hd : I64 d) (hn : n.size ≤ maxLen) {nb : Nat} (hf : C.find d n = some nb) {x : Nod} (hx : alGet C.nodes nb = some x) (hk : x.b.kind = 1) (b : Brk) (hb : brkB b = true) :
    Calls Tryd.prog 14 #[.pointer (some ⟨t, 0, none⟩), .int .i64 d, .string n, b.agg] w fun e w' => e = .returned (.int .i64 0) ∧ Holds w' (treeH t (C.turn nb { x with b := { x.b with b := b } }) * R) := by
  have hA := h.alloc (.cells #[.int .i64 b.r1, .int .i64 b.r2, .int .i64 b.r3, .int .i64 b.gates] 25)
  have hA' := hA.to (star_left_comm _ _ _)
  have hs := segment_some hA' hd hn hf hx
  simp only [hk, if_true] at hs
  have HS := Lib.hid hs
  have HA := Lib.hid hA'
  have HX := Lib.hid hx
  have HBK := Lib.hid hb
  clear hs hA hA' hx hb hf h
  unfold Brk.agg
  go_enter Tryd.func14, Tryd.ntmps14
  go_wp2_with fail
  refine HS.out.mono ?_
  rintro e w' ⟨rfl, rfl⟩
  simp only [ptrV]
  go_wp2_with fail
  refine (brk_any b _).mono ?_
  rintro e w1 ⟨rfl, hB⟩
  rw [HBK.out]
  have h1 := HA.out.below hB
  have hbx : Holds w1 (blk w.heap.size (.cells #[.int .i64 b.r1, .int .i64 b.r2, .int .i64 b.r3, .int .i64 b.gates] 25 (0, 0)) * (treeH t C * R)) := h1.to (star_left_comm _ _ _)
  have hk1 := blk_cells hbx
  obtain ⟨rl, rd, ru, ho⟩ := holds_tree.1 hbx.right
  obtain ⟨n1, n2, av, _, hs2, hN⟩ := nod_front (C := C) (TreeAt.n ⟨ho⟩) HX.out
  have hk2 := blk_cells hN
  have hq2 := blk_free hN
  simp only [nodCells] at hk2
  have h2 := (((hN.setCell (i := 6) (.int .i64 b.r1)).setCell (i := 7) (.int .i64 b.r2)).setCell (i := 8) (.int .i64 b.r3)).setCell (i := 9) (.int .i64 b.gates)
  have h3 := nod_back (av := av) (hs2 { x with b := { x.b with b := b } }) h2
  have HF := Lib.hid ((holds_tree (t := t) (R := R) (C := C.turn nb { x with b := { x.b with b := b } })).2 ⟨rl, rd, ru, h3.to (by simp only [TreeC.turn]; ac_rfl)⟩)
  clear h1 h2 h3 hN ho hbx hs2 hB
  go_wp2
  go_ret
  exact ⟨rfl, HF.out⟩

set_option maxRecDepth 100000 in
set_option maxHeartbeats 1000000 in
theorem access_ok (h : Holds w (treeH t C * R)) {d : Int} {n : ByteArray} (hd : I64 d) (hn : n.size ≤ maxLen) {nb : Nat} (hf : C.find d n = some nb) {x : Nod} (hx : alGet C.nodes nb = some x) (hk : x.b.kind = 1) (aa : Option Addr) (cc : Nat) (l : List Trm)
    (hl : listB l = true) (hr : Reads w 4 (.slice aa l.length cc) l.length (terms l)) (hus : ∀ t ∈ l, t.user.size ≤ maxLen) (hln : l.length < 4294967296) :
    Calls Tryd.prog 13 #[.pointer (some ⟨t, 0, none⟩), .int .i64 d, .string n, .slice aa l.length cc] w fun e w' => e = .returned (.int .i64 0) ∧ Holds w' (treeH t (C.turn nb { x with b := { x.b with acl := l } }) * R) := by
  have hs := segment_some h hd hn hf hx
  simp only [hk, if_true] at hs
  have HS := Lib.hid hs
  have HA := Lib.hid h
  have HX := Lib.hid hx
  have HL := Lib.hid hl
  have HN := Lib.hid hln
  clear hs h hx hl hf hln
  go_enter Tryd.func13, Tryd.ntmps13
  go_wp2_with fail
  refine HS.out.mono ?_
  rintro e w' ⟨rfl, rfl⟩
  simp only [ptrV]
  go_wp2_with fail
  refine (aclMay_any _ l _ hr hus).mono ?_
  rintro e w1 ⟨rfl, hB⟩
  rw [HL.out]
  have h1 := HA.out.below hB
  have hr1 := hr.below hB
  go_wp2_with fail
  refine (cloneTerm_any _ l _ _ h1 hr1 HN.out).mono ?_
  rintro e w2 ⟨v2, rfl, hH, hB2⟩
  obtain ⟨a2, c2, rfl, _⟩ := Holds.own_slice hH
  obtain ⟨rl, rd, ru, ho⟩ := holds_tree.1 (hH.to (star_left_comm _ _ _))
  obtain ⟨n1, n2, av, _, hs2, hN⟩ := nod_front (C := C) (TreeAt.n ⟨ho⟩) HX.out
  have hk2 := blk_cells hN
  have hq2 := blk_free hN
  simp only [nodCells] at hk2
  have hav : ∃ a3 n3 c3, av = .slice a3 n3 c3 := by
    obtain ⟨a3, c3, e, _⟩ := Holds.own_slice (hN.to (star_left_comm _ _ _)); exact ⟨a3, _, c3, e⟩
  obtain ⟨a3, n3, c3, rfl⟩ := hav
  have h2 := hN.setCell (i := 5) (.slice a2 l.length c2)
  have h2' := h2.to (Q := aclH (.slice a3 n3 c3) x.b.acl * (blk nb _ * (aclH (.slice a2 l.length c2) l * (bigS nodH (n1 ++ n2) * (blk t (.cells (rootCells rl rd ru C.next) 70 (0, 0)) * (mpL rl C.ents * (mpD rd C.dirs * (mpU ru C.uids * R)))))))) (by ac_rfl)
  have h3 := nod_back (av := .slice a2 l.length c2) (hs2 { x with b := { x.b with acl := l } }) h2'.right
  have HF := Lib.hid ((holds_tree (t := t) (R := R) (C := C.turn nb { x with b := { x.b with acl := l } })).2 ⟨rl, rd, ru, h3.to (by simp only [TreeC.turn]; ac_rfl)⟩)
  clear h1 h2 h2' h3 hN ho hs2 hB hB2 hH hr1
  go_wp2
  go_ret
  exact ⟨rfl, HF.out⟩
end
end Go.Proofs.YtapkcgmjadpdiaaDoor

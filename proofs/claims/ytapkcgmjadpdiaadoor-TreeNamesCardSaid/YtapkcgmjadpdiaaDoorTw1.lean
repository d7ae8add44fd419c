/- The hierarchy's small functions. -/
import Derived.Test.YtapkcgmjadpdiaaDoorTree
namespace Go.Proofs.YtapkcgmjadpdiaaDoor
set_option linter.unusedVariables false
set_option linter.unusedSimpArgs false
open Go.RowKit Go.Maps Go.Sp

section
variable {w : World} {t : Nat} {C : TreeC} {R : HProp}

theorem is_any (h : Holds w (treeH t C * R)) {d : Int} (hd : I64 d) :
    Calls Tryd.prog 26 #[.pointer (some ⟨t, 0, none⟩), .int .i64 d] w fun e w' => e = .returned (.bool (alGet C.dirs d).isSome) ∧ w = w' := by
  obtain ⟨rl, rd, ru, ho⟩ := holds_tree.1 h
  have h0 : TreeAt w t C R rl rd ru := ⟨ho⟩
  have c1 := h0.c1
  have hl := h0.lookD hd true
  clear ho h0 h
  simp only [if_true] at hl
  go_enter Tryd.func26, Tryd.ntmps26
  go_wp2
  go_ret
  exact ⟨rfl, rfl⟩
theorem none_any (t : Nat) (w : World) :
    Calls Tryd.prog 27 #[.pointer (some ⟨t, 0, none⟩)] w fun e w' => e = .returned (.int .i64 4) ∧ w = w' := by
  go_enter Tryd.func27, Tryd.ntmps27
  go_wp2
  go_ret
  exact ⟨rfl, rfl⟩
theorem get_any (h : Holds w (treeH t C * R)) {d : Int} {n : ByteArray} (hd : I64 d) (hn : n.size ≤ maxLen) :
    Calls Tryd.prog 29 #[.pointer (some ⟨t, 0, none⟩), .int .i64 d, .string n] w fun e w' => e = .returned (optP (C.find d n)) ∧ w = w' := by
  obtain ⟨rl, rd, ru, ho⟩ := holds_tree.1 h
  have h0 : TreeAt w t C R rl rd ru := ⟨ho⟩
  have c0 := h0.c0
  have hl := h0.lookL hd hn
  clear ho h0 h
  go_enter Tryd.func29, Tryd.ntmps29
  go_wp2
  go_ret
  exact ⟨rfl, rfl⟩
/-- A name more for node nb. -/
def TreeC.put (C : TreeC) (d : Int) (n : ByteArray) (nb : Nat) (x : Nod) (c : Int) : TreeC :=
  { C with ents := C.ents ++ [((d, n), nb)], dirs := alSet C.dirs d (c + 1), nodes := alSet C.nodes nb { x with many := x.many + 1 } }

set_option maxRecDepth 100000 in
theorem put_any (h : Holds w (treeH t C * R)) {d : Int} {n : ByteArray} (hd : I64 d) (hn : n.size ≤ maxLen) (hf : C.find d n = none) {c : Int} (hc : alGet C.dirs d = some c) (hcb : 0 ≤ c ∧ c < 4294967296)
    {nb : Nat} {x : Nod} (hx : alGet C.nodes nb = some x) (hm : 0 ≤ x.many ∧ x.many < 4294967296) :
    Calls Tryd.prog 31 #[.pointer (some ⟨t, 0, none⟩), .int .i64 d, .string n, .pointer (some ⟨nb, 0, none⟩)] w fun e w' => e = .returned (.tuple #[]) ∧ Holds w' (treeH t (C.put d n nb x c) * R) := by
  obtain ⟨rl, rd, ru, ho⟩ := holds_tree.1 h
  have h0 : TreeAt w t C R rl rd ru := ⟨ho⟩
  have c0 := h0.c0
  obtain ⟨W1, r1, H1, _⟩ := run_update_new (v := ptrV nb) keyLaw Tryd.underlying66 h0.l (okKey hd hn) ((mem_map_fst keyV_inj).2 (al_none.1 hf))
  have H1' : Holds W1 (mpL rl (C.ents ++ [((d, n), nb)]) * (blk t (.cells (rootCells rl rd ru C.next) 70 (0, 0)) * (mpD rd C.dirs * (mpU ru C.uids * (bigS nodH C.nodes * R))))) := by
    unfold mpL; rw [List.map_append]; exact H1
  have h1 : TreeAt W1 t { C with ents := C.ents ++ [((d, n), nb)] } R rl rd ru := ⟨H1'.to (by ac_rfl)⟩
  have c1 := h1.c1
  have l1 := h1.lookD hd false
  simp only [hc, Bool.false_eq_true, if_false, Option.getD_some] at l1
  obtain ⟨m1, m2, e1, e2, _, _⟩ := al_split hc
  have hD := h1.d
  simp only [mpD, e1, List.map_append, List.map_cons] at hD
  obtain ⟨W2, r2, H2, _⟩ := run_update_old (v := intV (c + 1)) intLaw Tryd.underlying67 hD
  have H2' : Holds W2 (mpD rd (alSet C.dirs d (c + 1)) * (blk t (.cells (rootCells rl rd ru C.next) 70 (0, 0)) * (mpL rl (C.ents ++ [((d, n), nb)]) * (mpU ru C.uids * (bigS nodH C.nodes * R))))) := by
    unfold mpD; rw [e2, List.map_append]; exact H2
  obtain ⟨n1, n2, av, _, hs, hN⟩ := nod_front (C := C) (R := blk t (.cells (rootCells rl rd ru C.next) 70 (0, 0)) * (mpL rl (C.ents ++ [((d, n), nb)]) * (mpU ru C.uids * (mpD rd (alSet C.dirs d (c + 1)) * R)))) (H2'.to (by ac_rfl)) hx
  have k11 : W2.cell? ⟨nb, 11, none⟩ = some (.int .i64 x.many) := by simp [World.cell?, hN.get, nodCells]
  have f11 : W2.frozen? ⟨nb, 11, none⟩ = false := by simp [World.frozen?, hN.get]
  have hW := nod_back (hs { x with many := x.many + 1 }) (hN.setCell (i := 11) (.int .i64 (x.many + 1)))
  have HF : Holds (W2.setCell ⟨nb, 11, none⟩ (.int .i64 (x.many + 1))) (treeH t (C.put d n nb x c) * R) := holds_tree.2 ⟨rl, rd, ru, hW.to (by simp only [TreeC.put]; ac_rfl)⟩
  have r1' : (Instr.mapUpdate 66 (.map (some rl)) (.agg #[.int .i64 d, .string n]) (.pointer (some ⟨nb, 0, none⟩))).run Tryd.prog w = .ok () W1 := r1
  have r2' : (Instr.mapUpdate 67 (.map (some rd)) (.int .i64 d) (.int .i64 (c + 1))).run Tryd.prog W1 = .ok () W2 := r2
  clear r1 r2 hN hW H2' H2 hD H1' H1 h0 h1 ho h hs e1 e2 hc hx hf
  go_enter Tryd.func31, Tryd.ntmps31
  go_wp2
  go_end0
  exact ⟨rfl, HF⟩
/-- A name less. -/
def TreeC.take (C : TreeC) (d : Int) (n : ByteArray) (nb : Nat) (x : Nod) (c : Int) : TreeC :=
  { C with ents := alDel C.ents (d, n), dirs := alSet C.dirs d (c - 1), nodes := alSet C.nodes nb { x with many := x.many - 1 } }

set_option maxRecDepth 100000 in
theorem take_any (h : Holds w (treeH t C * R)) {d : Int} {n : ByteArray} (hd : I64 d) (hn : n.size ≤ maxLen) {nb : Nat} (hf : C.find d n = some nb) {c : Int} (hc : alGet C.dirs d = some c) (hcb : 0 ≤ c ∧ c < 4294967296)
    {x : Nod} (hx : alGet C.nodes nb = some x) (hm : 0 ≤ x.many ∧ x.many < 4294967296) :
    Calls Tryd.prog 43 #[.pointer (some ⟨t, 0, none⟩), .int .i64 d, .string n] w fun e w' => e = .returned (.tuple #[]) ∧ Holds w' (treeH t (C.take d n nb x c) * R) := by
  obtain ⟨rl, rd, ru, ho⟩ := holds_tree.1 h
  have h0 : TreeAt w t C R rl rd ru := ⟨ho⟩
  have c0 := h0.c0
  have l0 := h0.lookL hd hn
  rw [hf] at l0
  simp only [optP, ptrV] at l0
  obtain ⟨n1, n2, av, _, hs, hN⟩ := nod_front h0.n hx
  have k11 : w.cell? ⟨nb, 11, none⟩ = some (.int .i64 x.many) := by simp [World.cell?, hN.get, nodCells]
  have f11 : w.frozen? ⟨nb, 11, none⟩ = false := by simp [World.frozen?, hN.get]
  have hW := nod_back (hs { x with many := x.many - 1 }) (hN.setCell (i := 11) (.int .i64 (x.many - 1)))
  obtain ⟨WS, hWS⟩ : ∃ WS, WS = w.setCell ⟨nb, 11, none⟩ (.int .i64 (x.many - 1)) := ⟨_, rfl⟩
  rw [← hWS] at hW
  have h1 : TreeAt WS t { C with nodes := alSet C.nodes nb { x with many := x.many - 1 } } R rl rd ru := ⟨hW.to (by ac_rfl)⟩
  have c0' := h1.c0
  obtain ⟨m1, m2, e1, e2, e3, _⟩ := al_split hf
  have hL := h1.l
  simp only [mpL, e1, List.map_append, List.map_cons] at hL
  obtain ⟨W1, r1, H1, _⟩ := run_delete_in (ty := 0) keyLaw Tryd.underlying66 hL
  have h2 : TreeAt W1 t { C with ents := alDel C.ents (d, n), nodes := alSet C.nodes nb { x with many := x.many - 1 } } R rl rd ru := by
    refine ⟨Holds.to ?_ (by ac_rfl : mpL rl (alDel C.ents (d, n)) * (blk t (.cells (rootCells rl rd ru C.next) 70 (0, 0)) * (mpD rd C.dirs * (mpU ru C.uids * (bigS nodH (alSet C.nodes nb { x with many := x.many - 1 }) * R)))) = _)⟩
    unfold mpL; rw [e3, List.map_append]; exact H1
  have c1 := h2.c1
  have l1 := h2.lookD hd false
  simp only [hc, Bool.false_eq_true, if_false, Option.getD_some] at l1
  obtain ⟨q1, q2, g1, g2, _, _⟩ := al_split hc
  have hD := h2.d
  simp only [mpD, g1, List.map_append, List.map_cons] at hD
  obtain ⟨W2, r2, H2, _⟩ := run_update_old (v := intV (c - 1)) intLaw Tryd.underlying67 hD
  have HF : Holds W2 (treeH t (C.take d n nb x c) * R) := by
    refine holds_tree.2 ⟨rl, rd, ru, Holds.to ?_ (by simp only [TreeC.take]; ac_rfl : mpD rd (alSet C.dirs d (c - 1)) * (blk t (.cells (rootCells rl rd ru C.next) 70 (0, 0)) * (mpL rl (alDel C.ents (d, n)) * (mpU ru C.uids * (bigS nodH (alSet C.nodes nb { x with many := x.many - 1 }) * R)))) = _)⟩
    unfold mpD; rw [g2, List.map_append]; exact H2
  have r1' : ∀ ty, (Builtin.delete_ #[66, 92] ty #[.map (some rl), .agg #[.int .i64 d, .string n]]).run Tryd.prog WS = .ok (.tuple #[]) W1 := fun _ => r1
  have r2' : (Instr.mapUpdate 67 (.map (some rd)) (.int .i64 d) (.int .i64 (c - 1))).run Tryd.prog W1 = .ok () W2 := r2
  rw [hWS] at r1' c0'
  clear r1 r2 hN hW H2 hD H1 hL h0 h1 h2 ho h hs e1 e2 e3 g1 g2 hc hx hf hWS
  go_enter Tryd.func43, Tryd.ntmps43
  go_wp2
  go_end0
  exact ⟨rfl, HF⟩
end
end Go.Proofs.YtapkcgmjadpdiaaDoor

/- tree.Names: the names of a directory, in some order. -/
import Derived.Test.YtapkcgmjadpdiaaDoorNm2
import Derived.Test.YtapkcgmjadpdiaaDoorTw1
namespace Go.Proofs.YtapkcgmjadpdiaaDoor
set_option linter.unusedVariables false
set_option linter.unusedSimpArgs false
open Go.RowKit Go.Maps Go.Sp Go.Proofs.YtapkcgmjadpdiaaDoorW.PrintLast
section
variable {w : World} {t : Nat} {C : TreeC} {R : HProp}

def namesIn (C : TreeC) (d : Int) : List ByteArray := (C.ents.filter fun p => p.1.1 = d).map (·.1.2)
theorem infoStr : (Tryd.prog.info? 9).map (fun i => (i.zero, i.size, i.bytes)) = some (some (.string ⟨#[]⟩), 1, 16) := by kernel_rfl
def encE (p : (Int × ByteArray) × Nat) : Value × Value := (keyV p.1, ptrV p.2)
def nmL (l : List ((Int × ByteArray) × Nat)) (d : Int) : List ByteArray := (l.filter fun p => p.1.1 = d).map (·.1.2)

set_option maxRecDepth 100000 in
set_option maxHeartbeats 2000000 in
theorem names_ok (h : Holds w (treeH t C * R)) (d : Int) (hlen : C.ents.length < 4294967296) :
    Calls Tryd.prog 18 #[.pointer (some ⟨t, 0, none⟩), .int .i64 d] w fun e w' => ∃ (v : Value) (L : List ByteArray), e = .returned v ∧ L.Perm (namesIn C d) ∧ Holds w' (own 9 1 v L.length (L.map .string) * (treeH t C * R)) := by
  obtain ⟨i, hi, hi2⟩ := Option.map_eq_some_iff.1 infoStr
  simp only [Prod.mk.injEq] at hi2
  obtain ⟨iz, isz, ib⟩ := hi2
  have HI := Lib.hid hi; have HIZ := Lib.hid iz; have HIS := Lib.hid isz; have HIB := Lib.hid ib
  clear hi iz isz ib
  obtain ⟨rl, rd, ru, ho⟩ := holds_tree.1 h
  have c0 := TreeAt.c0 ⟨ho⟩
  have h1 := TreeAt.l ⟨ho⟩
  obtain ⟨W, r, hW, hsz⟩ := run_range_mp Tryd.underlying66 h1
  have HW := Lib.hid hW
  clear hsz
  clear h ho h1 hW
  go_enter Tryd.func18, Tryd.ntmps18
  go_wp2
  go_loopw [5] (fun v wr => ∃ (L : List ByteArray) (lf : List ((Int × ByteArray) × Nat)), Holds wr (rng Tryd.prog 92 rl w.heap.size (C.ents.map encE) (lf.map encE) * (own 9 1 v L.length (L.map .string) * (blk t (.cells (rootCells rl rd ru C.next) 70 (0, 0)) * (mpD rd C.dirs * (mpU ru C.uids * (bigS nodH C.nodes * R)))))) ∧ (L ++ nmL lf d).Perm (nmL C.ents d) ∧ L.length + lf.length ≤ C.ents.length) (fun _ wr => wr.rangeLeft rl w.heap.size)
  case atStart => exact ⟨[], C.ents, HW.out.to (by simp only [List.length_nil, List.map_nil, own_nil, emp_star, mpD, mpU]; rfl), List.Perm.refl _, by simp⟩
  case round =>
    obtain ⟨L, lf, hH, hp, hc⟩ := hrel
    have HP := Lib.hid hp
    have HC := Lib.hid hc
    rcases run_next_rng hH 0 with ⟨hnil, hrun⟩ | ⟨key, v, l1, l2, W2, hl, hrun, hH2, hs2, hen⟩
    · obtain rfl : lf = [] := by simpa using hnil
      have hE := holds_rng_end hH
      have HH := Lib.hid hE
      clear hH hp hc hE hnil
      have hLn : L.length < 4294967296 := by have := HC.out; simp at this; omega
      go_wp2_with fail
      refine (sort_ok hLn (HH.out.to (star_left_comm _ _ _))).mono ?_
      rintro e w2 ⟨rfl, l', hp', hH'⟩
      have HF := Lib.hid hH'
      have HP' := Lib.hid hp'
      clear hp' hH' HH
      go_wp2
      go_ret
      have hl := HP'.out.length_eq
      refine ⟨u5, l', rfl, HP'.out.trans (by have := HP.out; simpa [nmL, namesIn] using this), ?_⟩
      rw [hl]
      refine ((holds_tree (t := t) (C := C)).2 ⟨rl, rd, ru, HF.out.to ?_⟩).to (star_left_comm _ _ _)
      show own 9 1 u5 L.length (l'.map .string) * (mpL rl C.ents * _) = _
      ac_rfl
    · obtain ⟨f1, fr, rfl, e1, e2⟩ := List.map_eq_append_iff.1 hl
      obtain ⟨x, f2, rfl, e3, e4⟩ := List.map_eq_cons_iff.1 e2
      simp only [encE, Prod.mk.injEq] at e3
      obtain ⟨rfl, rfl⟩ := e3
      subst e1 e4
      obtain ⟨⟨xd, xn⟩, nb⟩ := x
      have HH2 := Lib.hid hH2
      have hml := holds_rng_left hH
      simp only [List.length_append, List.length_map, List.length_cons] at hml
      have HML := Lib.hid hml
      clear hml
      clear hH hp hc hl e2 hH2 hs2
      simp only [keyV, ptrV] at hen hrun
      have HA1 := Lib.hid (HH2.out.alloc (.cells #[.int .i64 xd, .string xn] 92)).right
      by_cases hd : xd = d
      · subst hd
        have hG := HA1.out.alloc (.cells #[.string xn] 9)
        have eG : (W2.alloc (.cells #[.int .i64 xd, .string xn] 92)).heap.size = W2.heap.size + 1 := by simp
        rw [eG] at hG
        have hgg := hG.get
        have hcell : ((W2.alloc (.cells #[.int .i64 xd, .string xn] 92)).alloc (.cells #[.string xn] 9)).cell? ⟨W2.heap.size + 1, 0, none⟩ = some (.string xn) := by
          simp only [World.cell?, hgg]; rfl
        have hG2 := hG.to (Q := own 9 1 _ L.length (L.map .string) * (rng Tryd.prog 92 rl w.heap.size (C.ents.map encE) (f1.map encE ++ f2.map encE) * (blk (W2.heap.size + 1) (.cells #[.string xn] 9) * (blk t (.cells (rootCells rl rd ru C.next) 70 (0, 0)) * (mpD rd C.dirs * (mpU ru C.uids * (bigS nodH C.nodes * R))))))) (by ac_rfl)
        have HG := Lib.hid hG2
        have HCELL := Lib.hid hcell
        have hLn : L.length + 1 ≤ C.ents.length := by have := HC.out; simp at this; omega
        clear hG hG2 hcell eG hgg HA1
        go_wp2_with (refine wpList_append_sep rfl _ _ 55 rfl Tryd.underlying55 HI.out HIZ.out HIS.out HIB.out rfl (by omega) rfl HG.out ⟨W2.heap.size + 1, 0, none⟩ 1 1 [.string xn] rfl rfl (by
            intro j u hj
            match j, hj with
            | 0, hj => simp at hj; subst hj; exact HCELL.out) (by intro u hu; simp at hu; subst hu; rfl) (by unfold maxLen; omega) (by omega) ?_; intro v3 W3 hW3 hle hnn)
        have h3 := hW3.out
        have h4 := h3.to (Q := blk (W2.heap.size + 1) (.cells #[.string xn] 9) * (rng Tryd.prog 92 rl w.heap.size (C.ents.map encE) ((f1 ++ f2).map encE) * (own 9 1 v3 (L ++ [xn]).length ((L ++ [xn]).map .string) * (blk t (.cells (rootCells rl rd ru C.next) 70 (0, 0)) * (mpD rd C.dirs * (mpU ru C.uids * (bigS nodH C.nodes * R))))))) (by simp only [List.map_append, List.length_append, List.map_cons, List.map_nil, List.length_cons, List.length_nil, Nat.zero_add]; ac_rfl)
        have hml := HML.out
        have hml2 := holds_rng_left h4.right
        simp only [List.length_map, List.length_append] at hml2
        refine ⟨⟨L ++ [xn], f1 ++ f2, h4.right, ?_, ?_⟩, ?_⟩
        · have hpm := HP.out
          refine List.Perm.trans ?_ hpm
          simp only [nmL, List.filter_append, List.filter_cons, List.map_append, decide_true, if_true, List.map_cons, List.append_assoc]
          refine List.Perm.append_left _ ?_
          rw [List.singleton_append]
          exact List.perm_middle.symm
        · have := HC.out; simp at this ⊢; omega
        · omega
      · have hd' : (xd == d) = false := by simpa using hd
        go_wp2_with fail
        have hml := HML.out
        have h4 := HA1.out
        rw [← List.map_append] at h4
        have hml2 := holds_rng_left h4
        simp only [List.length_map, List.length_append] at hml2
        refine ⟨⟨L, f1 ++ f2, h4, ?_, ?_⟩, ?_⟩
        · have hpm := HP.out
          simpa only [nmL, List.filter_append, List.filter_cons, hd, decide_false, Bool.false_eq_true, if_false] using hpm
        · have := HC.out; simp at this ⊢; omega
        · omega
end
end Go.Proofs.YtapkcgmjadpdiaaDoor

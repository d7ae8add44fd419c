/- store.Resize. -/
import Derived.Test.YtapkcgmjadpdiaaDoorStore4
import Derived.Laws.CopyOwn
namespace Go.Proofs.YtapkcgmjadpdiaaDoor
set_option linter.unusedVariables false
set_option linter.unusedSimpArgs false
open Go.RowKit Go.Maps Go.Sp Go.Proofs.YtapkcgmjadpdiaaDoorW.PrintLast
section
variable {w : World} {s : Nat} {Q : StoreC} {R : HProp}

def resizeW (ws : List Int) (n : Nat) : List Int := ws.take n ++ List.replicate (n - ws.length) 0
theorem resizeW_len (ws : List Int) (n : Nat) : (resizeW ws n).length = n := by simp [resizeW]; omega
theorem splice_resize (ws : List Int) (n : Nat) : splice (wordsV (List.replicate n 0)) 0 (wordsV (ws.take n)) = wordsV (resizeW ws n) := by
  simp only [splice, resizeW, wordsV, List.take_zero, List.nil_append, Nat.zero_add, List.map_append, List.map_replicate, List.drop_replicate, List.length_map, List.length_take]
  congr 2
  omega

set_option maxRecDepth 100000 in
set_option maxHeartbeats 2000000 in
theorem sresize_ok (h : Holds w (storeH s Q * R)) {u : Int} {n : Nat} (hu : I64 u) {x : Seg} (hx : alGet Q.segs u = some x) (hq : 0 ≤ Q.quota ∧ Q.quota ≤ 9223372036854775807) (hus : (x.ws.length : Int) ≤ Q.used ∧ Q.used ≤ 4294967296) (hxl : x.ws.length ≤ 4294967296) (hm : Q.may n x.ws.length = 0) :
    Calls Tryd.prog 15 #[.pointer (some ⟨s, 0, none⟩), .int .i64 u, .int .i64 (n : Int)] w fun e w' => ∃ v, e = .returned (.int .i64 0) ∧ Holds w' (storeH s ⟨Q.quota, Q.used + (n - x.ws.length), Q.next, alSet Q.segs u ⟨v, resizeW x.ws n⟩⟩ * R) := by
  have hn1 : n ≤ 1024 := by
    have h2 : ¬ ((n : Int) < 0 ∨ 1024 < (n : Int)) := by intro hh; simp [StoreC.may, hh] at hm
    omega
  have hg := sget_any h hu
  obtain ⟨a, c, hv⟩ := seg_slice h hx
  simp only [StoreC.get, StoreC.err, hx, hv, Option.isSome_some, if_true] at hg
  have HG := Lib.hid hg
  have hmy := smay_any h (size := n) (gone := x.ws.length) hq (by omega) (by omega)
  rw [hm] at hmy
  have HM := Lib.hid hmy
  have HH := Lib.hid h
  have HX := Lib.hid hx
  have HV := Lib.hid hv
  have hmk := make_words n hn1
  clear hg hmy hm h hx hv
  go_enter Tryd.func15, Tryd.ntmps15
  go_wp2_with fail
  refine HG.out.mono ?_
  rintro e w' ⟨rfl, rfl⟩
  go_wp2_with fail
  refine HM.out.mono ?_
  rintro e w' ⟨rfl, q, rfl⟩
  have h0 := HH.out
  obtain ⟨ml, ho⟩ := holds_store.1 h0
  obtain ⟨n1, n2, e1, e2, _, hown⟩ := seg_front (ho.to (by ac_rfl : _ = bigS segH Q.segs * (blk s (.cells (stCells Q ml) 73 (0, 0)) * (mpS ml Q.segs * R)))) HX.out
  rw [HV.out] at hown
  have hA := (h0.alloc (.cells (wordsV (List.replicate n 0)).toArray 158)).drewN q
  have hBA : Below w.heap.size w ((w.alloc (.cells (wordsV (List.replicate n 0)).toArray 158)).drewN q) := below_drewN ((Below.refl _ _).alloc (Nat.le_refl _) _) q
  have hsrc := (Holds.reads hown).below hBA
  obtain ⟨_, _, hsrc⟩ := hsrc
  have hgA := hA.get
  have hone : ∀ v ∈ wordsV (x.ws.take n), v.oneCell' = true := by
    intro v hv; simp only [wordsV, List.mem_map] at hv; obtain ⟨i, _, rfl⟩ := hv; rfl
  have hpos : 0 < (wordsV (x.ws.take n)).length → ∃ ad, a = some ad ∧ ∀ j v, (wordsV (x.ws.take n))[j]? = some v → ((w.alloc (.cells (wordsV (List.replicate n 0)).toArray 158)).drewN q).cell? (ad.add j) = some v := by
    intro hp
    rcases hsrc with ⟨hn, h0⟩ | ⟨b, o, c', hv2, hb, hcell⟩
    · have : x.ws = [] := List.eq_nil_of_length_eq_zero h0
      simp [wordsV, this] at hp
    · simp only [Value.slice.injEq] at hv2
      refine ⟨⟨b, o, none⟩, hv2.1, fun j v hj => ?_⟩
      have e : (⟨b, o, none⟩ : Addr).add j = ⟨b, o + j, none⟩ := by
        unfold Addr.add; by_cases hj : j = 0 <;> simp [hj]
      rw [e]
      refine hcell j v ?_
      simp only [wordsV, List.getElem?_map, List.getElem?_take] at hj ⊢
      split at hj
      · exact hj
      · cases hj
  have hmin : (wordsV (x.ws.take n)).length = Nat.min x.ws.length n := by simp [wordsV, Nat.min_comm]
  have HO := Lib.hid ho
  have HW := Lib.hid hown
  have HE1 := Lib.hid e1
  have HE2 := Lib.hid e2
  have HMIN := Lib.hid hmin
  have HPOS := Lib.hid hpos
  have HGA := Lib.hid hgA
  clear ho hown e1 e2 h0 hA hsrc hmin hpos hgA
  have HBA := Lib.hid hBA
  clear hBA
  go_wp2_with (
      refine wpList_copy_splice rfl _ _ 74 74 rfl 158 Tryd.underlying74 (by kernel_rfl) _ _ _ _ _ _ rfl rfl w.heap.size 0 _ 158 HGA.out (wordsV (x.ws.take n)) HMIN.out (fun hp => ⟨rfl, HPOS.out hp⟩) (by simp [wordsV]; omega) hone w.heap.size w HBA.out (Nat.le_refl _) ?_
      intro w3 hw3 hb3
      have hg3 := hw3.out
      rw [splice_resize] at hg3
      have h3 := holds_new HO.out hb3 hg3 (Nat.le_refl _)
      obtain ⟨c0, c1, c2, c3⟩ := StoreAt.c (h3.to (Q := blk s (.cells (stCells Q ml) 73 (0, 0)) * (blk w.heap.size _ * (mpS ml Q.segs * (bigS segH Q.segs * R)))) (by ac_rfl))
      have h4 := h3.to (Q := mpS ml Q.segs * (blk w.heap.size (.cells (wordsV (resizeW x.ws n)).toArray 158) * (blk s (.cells (stCells Q ml) 73 (0, 0)) * (bigS segH Q.segs * R)))) (by ac_rfl)
      simp only [mpS, HE1.out, List.map_append, List.map_cons] at h4
      obtain ⟨W5, r5, h5, _⟩ := run_update_old (v := .slice (some ⟨w.heap.size, 0, none⟩) n n) intLaw Tryd.underlying71 h4
      have r5' : (Instr.mapUpdate 71 (.map (some ml)) (.int .i64 u) (.slice (some ⟨w.heap.size, 0, none⟩) n n)).run Tryd.prog w3 = .ok () W5 := r5
      have h6 : Holds W5 (blk s (.cells (stCells Q ml) 73 (0, 0)) * (mpS ml (alSet Q.segs u ⟨.slice (some ⟨w.heap.size, 0, none⟩) n n, resizeW x.ws n⟩) * (bigS segH (alSet Q.segs u ⟨.slice (some ⟨w.heap.size, 0, none⟩) n n, resizeW x.ws n⟩) * R))) := by
        rw [HE2.out, bigS_mid]
        have hd : Holds W5 (blk w.heap.size (.cells (wordsV (resizeW x.ws n)).toArray 158) * (blk s (.cells (stCells Q ml) 73 (0, 0)) * (mpS ml (n1 ++ (u, ⟨.slice (some ⟨w.heap.size, 0, none⟩) n n, resizeW x.ws n⟩) :: n2) * (bigS segH (n1 ++ n2) * R)))) := by
          rw [bigS_mid] at h5
          have h7 := h5.to (Q := segH (u, x) * (blk w.heap.size (.cells (wordsV (resizeW x.ws n)).toArray 158) * (blk s (.cells (stCells Q ml) 73 (0, 0)) * (mpS ml (n1 ++ (u, ⟨.slice (some ⟨w.heap.size, 0, none⟩) n n, resizeW x.ws n⟩) :: n2) * (bigS segH (n1 ++ n2) * R))))) (by
            unfold mpS; rw [List.map_append, List.map_cons]; ac_rfl)
          exact h7.right
        have hd2 : Holds W5 (own 158 1 (.slice (some ⟨w.heap.size, 0, none⟩) n n) n (wordsV (resizeW x.ws n)) * (blk s (.cells (stCells Q ml) 73 (0, 0)) * (mpS ml (n1 ++ (u, ⟨.slice (some ⟨w.heap.size, 0, none⟩) n n, resizeW x.ws n⟩) :: n2) * (bigS segH (n1 ++ n2) * R)))) :=
          own_cases.2 (.inr ⟨w.heap.size, n, (wordsV (resizeW x.ws n)).toArray, rfl, Nat.le_refl _, by unfold maxLen; omega, by simp [wordsV, resizeW_len], by simp [wordsV, List.take_of_length_le, resizeW_len], by simp [wordsV, resizeW_len], hd⟩)
        exact hd2.to (by simp only [segH, resizeW_len]; ac_rfl)
      obtain ⟨d0, d1, d2, d3⟩ := StoreAt.c h6
      have g5 := StoreAt.f h6
      have h8 : Holds (W5.setCell ⟨s, 1, none⟩ (.int .i64 (Q.used + ((n : Int) - x.ws.length)))) (blk s (.cells (stCells ⟨Q.quota, Q.used + ((n : Int) - x.ws.length), Q.next, Q.segs⟩ ml) 73 (0, 0)) * _) := h6.setCell (i := 1) (.int .i64 (Q.used + ((n : Int) - x.ws.length)))
      have HF := Lib.hid ((holds_store (s := s) (R := R) (Q := ⟨Q.quota, Q.used + ((n : Int) - x.ws.length), Q.next, alSet Q.segs u ⟨.slice (some ⟨w.heap.size, 0, none⟩) n n, resizeW x.ws n⟩⟩)).2 ⟨ml, h8⟩)
      have hn0 : (0 : Int) ≤ (n : Int) := by omega
      have hn2 : (n : Int) ≤ 1024 := by omega
      obtain ⟨hu1, hu2⟩ := hus
      have hx0 : (0 : Int) ≤ (x.ws.length : Int) := by omega
      have hx2 : (x.ws.length : Int) ≤ 4294967296 := by omega
      clear h3 h4 h5 h6 h8 r5 hw3 hg3 c0 c1 c2 d0 d2 d3 hb3 HO HW HE1 HE2 HBA HGA HPOS HMIN
      skip)
  go_ret
  exact ⟨_, rfl, HF.out⟩
end
end Go.Proofs.YtapkcgmjadpdiaaDoor

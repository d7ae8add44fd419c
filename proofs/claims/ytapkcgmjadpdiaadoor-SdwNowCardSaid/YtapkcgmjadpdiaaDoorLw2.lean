/- The law on descriptors: SdwNow. -/
import Derived.Test.YtapkcgmjadpdiaaDoorLw1
namespace Go.Proofs.YtapkcgmjadpdiaaDoor
set_option linter.unusedVariables false
set_option linter.unusedSimpArgs false
open Go.RowKit Go.Maps Go.Sp Go.Proofs.YtapkcgmjadpdiaaDoorW.PrintLast
section
variable {w : World} {R : HProp}

set_option maxRecDepth 100000 in
theorem of_nil (h : Holds w R) (sp : Option Addr) (u : Int) (user : ByteArray) :
    Calls Tryd.prog 12 #[.pointer none, .pointer sp, .int .i64 u, .string user] w fun e w' => e = .returned (.tuple #[sdw0.agg, .int .i64 1]) ∧ Holds w' R := by
  have hA := h.alloc (.cells (sdwCells sdw0) 40)
  simp only [sdwCells, sdw0, flg0] at hA
  have HE := Lib.hid hA
  clear hA h
  go_enter Tryd.func12, Tryd.ntmps12
  go_wp2
  exact ret_sdw (y := sdw0) (i := 8) (j := 9) rfl rfl rfl rfl HE.out.get ⟨rfl, HE.out.right⟩

set_option maxRecDepth 100000 in
set_option maxHeartbeats 4000000 in
theorem sdwNow_ok (h : Holds w R) (f : Flg) (b : Brk) (k : Int) (hk : 0 ≤ k ∧ k < 256) :
    Calls Tryd.prog 3 #[f.agg, b.agg, .int .u8 k] w fun e w' => e = .returned (.bool true) ∧ Holds w' R := by
  have h0 := (h.alloc (.cells #[.bool f.r, .bool f.w, .bool f.e] 23)).alloc (.cells #[.int .i64 b.r1, .int .i64 b.r2, .int .i64 b.r3, .int .i64 b.gates] 25)
  have e0 : (w.alloc (.cells #[.bool f.r, .bool f.w, .bool f.e] 23)).heap.size = w.heap.size + 1 := by simp
  rw [e0] at h0
  have ha := awake_ok h0
  have hrm := fun w => ringMay_any b w
  unfold Brk.agg at hrm
  have HA := Lib.hid ha
  have HRM := Lib.hid hrm
  clear h h0 ha hrm e0
  unfold Flg.agg Brk.agg
  go_enter Tryd.func3, Tryd.ntmps3
  go_wp2_with fail
  refine HA.out.mono ?_
  rintro e w0 ⟨rfl, h0⟩
  go_wp2_with fail
  refine (tnew_any h0).mono ?_
  rintro e w1 ⟨t, rfl, h1⟩
  go_wp2_with fail
  refine (snew_any 2000 h1).mono ?_
  rintro e w2 ⟨s, rfl, h2⟩
  go_wp2_with fail
  have hm := smake_ok (n := 9) h2 (by simp; omega) (by simp) (by simp) (by simp [StoreC.may]; omega) rfl
  simp only [Int.reduceAdd] at hm
  refine hm.mono ?_
  rintro e w3 ⟨v, rfl, h3⟩
  have h3 := h3.to (star_left_comm _ _ _)
  have HT := Lib.hid h3
  clear h0 h1 h2 h3 hm HA
  go_wp2_with fail
  have ha := add_seg HT.out (d := 0) (n := { data := #[97] }) (I64.of (by omega)) (size1 _) (by decide) (c := 0) rfl (by omega) rfl ⟨1, 1, 0, { data := #[] }, false, [], ⟨0, 0, 7, 0⟩⟩ none 0 rfl (by simp) (by decide) (by decide) rfl ⟨rfl, by simp, .inl ⟨rfl, rfl⟩⟩ (by simp) (by simp)
  refine ha.mono ?_
  rintro e w4 ⟨nb, rfl, h5, _⟩
  have h6 := blk_cells (h5.to (Q := blk (w.heap.size + 1) _ * (blk w.heap.size _ * (treeH t _ * (storeH s _ * R)))) (by ac_rfl))
  have HT := Lib.hid h5
  clear h5
  go_wp2_with fail
  refine (HRM.out _).mono ?_
  rintro e w5 ⟨rfl, hb⟩
  have h6 := HT.out.below hb
  by_cases hbk : brkB b = true
  case neg =>
    simp only [Bool.not_eq_true] at hbk
    rw [hbk]
    have HF := Lib.hid h6.right.right.right.right
    clear h6
    go_wp2
    go_ret
    exact ⟨rfl, HF.out⟩
  rw [hbk]
  have ho := of_ok h6 (u := 1) (I64.of (by omega)) { data := #[117] } (nb := nb) (by simp [TreeC.added, segOf, alGet]) (x := ⟨_, 0, 1⟩) (by simp [TreeC.added, alGet]; rfl) (by simp [segOf]) (by simp [segOf]) (sg := ⟨v, List.replicate 9 0⟩) rfl
  simp only [sdwOf, segOf, flags_nil, flg0, SdwS.agg, List.length_replicate, if_false, Bool.false_eq_true] at ho
  have HO := Lib.hid ho
  clear ho h6 ha HT hb
  go_wp2_with fail
  refine HO.out.mono ?_
  rintro e w6 ⟨rfl, h7, _⟩
  have h8 := h7.alloc (.cells #[.int .i64 1, .int .i64 9, .bool false, .bool false, .bool false, .int .i64 0, .int .i64 0, .int .i64 7, .int .i64 0] 40)
  have c8 := blk_cells (h8.to (Q := blk w.heap.size _ * (blk (w.heap.size + 1) _ * (blk w6.heap.size _ * (treeH t _ * (storeH s _ * R))))) (by ac_rfl))
  have HH8 := Lib.hid h8
  clear h7 h8 HO
  go_wp2_with fail
  have h9 := HH8.out.alloc (.cells #[.string { data := #[117] }, .bool f.r, .bool f.w, .bool f.e] 45)
  have e9 : (w6.alloc (.cells #[.int .i64 1, .int .i64 9, .bool false, .bool false, .bool false, .int .i64 0, .int .i64 0, .int .i64 7, .int .i64 0] 40)).heap.size = w6.heap.size + 1 := by simp
  rw [e9] at h9
  have hr := reads_one h9
  have ha := access_ok (h9.to (Q := treeH t _ * (blk (w6.heap.size + 1) _ * (blk w6.heap.size _ * (storeH s _ * (blk (w.heap.size + 1) _ * (blk w.heap.size _ * R)))))) (by ac_rfl)) (d := 0) (n := { data := #[97] }) (I64.of (by omega)) (size1 _) (nb := nb) (by simp [TreeC.find, TreeC.added, alGet]) (x := ⟨_, 0, 1⟩) (by simp [TreeC.added, alGet]; rfl) rfl (some ⟨w6.heap.size + 1, 0, none⟩) 1 [⟨{ data := #[117] }, f⟩] (listB_one userB_u) hr (by intro t ht; simp at ht; subst ht; exact size1 _) (by simp)
  have HX := Lib.hid ha
  clear h9 hr ha e9 HH8
  refine HX.out.mono ?_
  rintro e w7 ⟨rfl, h10⟩
  rw [show (TreeC.turn _ _ _ : TreeC) = ⟨[((0, ⟨#[97]⟩), nb)], [(0, 1)], [(1, nb)], 0, [(nb, ⟨⟨1, 1, 0, ⟨#[]⟩, false, [⟨⟨#[117]⟩, f⟩], ⟨0, 0, 7, 0⟩⟩, 0, 1⟩)]⟩ from by simp [TreeC.turn, TreeC.added, alSet, segOf]] at h10
  have c10 := blk_cells (h10.to (Q := blk (w.heap.size + 1) _ * (treeH t _ * (blk (w6.heap.size + 1) _ * (blk w6.heap.size _ * (storeH s _ * (blk w.heap.size _ * R)))))) (by ac_rfl))
  have HH := Lib.hid h10
  clear h10 HX c8
  go_wp2_with fail
  have hg := ringed_ok HH.out (d := 0) (n := { data := #[97] }) (I64.of (by omega)) (size1 _) (nb := nb) (by simp [TreeC.find, alGet]) (x := ⟨_, 0, 1⟩) (by simp [alGet]; rfl) rfl b hbk
  simp only [TreeC.turn, alSet, if_true, Brk.agg] at hg
  have HX := Lib.hid hg
  clear hg HH
  refine HX.out.mono ?_
  rintro e w8 ⟨rfl, h11⟩
  have HH := Lib.hid h11
  clear h11 HX c10
  have hk0 : 0 ≤ k := hk.1
  have hk1 : k < 256 := hk.2
  go_wp2_with fail
  have em : ((k.toNat % 30 : Nat) : Int) = k % 30 := by omega
  have hz := sresize_ok (n := k.toNat % 30) (HH.out.to (Q := storeH s _ * (treeH t _ * (blk (w6.heap.size + 1) _ * (blk w6.heap.size _ * (blk (w.heap.size + 1) _ * (blk w.heap.size _ * R)))))) (by ac_rfl)) (u := 1) (I64.of (by omega)) (x := ⟨v, List.replicate 9 0⟩) rfl (by simp; omega) (by simp) (by simp) (by simp [StoreC.may]; omega)
  rw [em] at hz
  have HX := Lib.hid hz
  clear hz HH
  refine HX.out.mono ?_
  rintro e w9 ⟨v9, rfl, h12⟩
  have h13 := h12.to (star_left_comm _ _ _)
  have ho := of_ok h13 (u := 1) (I64.of (by omega)) { data := #[117] } (nb := nb) (by simp [alGet]) (x := ⟨_, 0, 1⟩) (by simp [alGet]; rfl) (by simp) (by intro t ht; simp at ht; subst ht; exact size1 _) (sg := ⟨v9, resizeW (List.replicate 9 0) (k.toNat % 30)⟩) (by simp [alSet, alGet])
  simp only [sdwOf, flags_me _ userB_u, SdwS.agg, resizeW_len, if_false, Bool.false_eq_true, em] at ho
  have HX := Lib.hid ho
  clear h12 h13 ho
  go_wp2_with fail
  refine HX.out.mono ?_
  rintro e w10 ⟨rfl, h14, _⟩
  have h15 := h14.alloc (.cells #[.int .i64 1, .int .i64 (k % 30), .bool f.r, .bool f.w, .bool f.e, .int .i64 b.r1, .int .i64 b.r2, .int .i64 b.r3, .int .i64 b.gates] 40)
  have hd := sdrop_ok (h15.to (Q := storeH s _ * (treeH t _ * (blk w10.heap.size _ * (blk (w6.heap.size + 1) _ * (blk w6.heap.size _ * (blk (w.heap.size + 1) _ * (blk w.heap.size _ * R))))))) (by ac_rfl)) (u := 1) (I64.of (by omega)) (x := ⟨v9, resizeW (List.replicate 9 0) (k.toNat % 30)⟩) (by simp [alSet, alGet]) (by simp [resizeW_len]; omega)
  have HD := Lib.hid hd
  clear h14 h15 hd HX
  go_wp2_with fail
  refine HD.out.mono ?_
  rintro e w11 ⟨rfl, h16⟩
  have ho := of_gone (h16.to (star_left_comm _ _ _)) (u := 1) (I64.of (by omega)) { data := #[117] } (nb := nb) (by simp [alGet]) (x := ⟨_, 0, 1⟩) (by simp [alGet]; rfl) (by simp) (by simp [alDel, alSet, alGet])
  simp only [sdw0, SdwS.agg, flg0] at ho
  have HX := Lib.hid ho
  clear h16 ho HD
  go_wp2_with fail
  refine HX.out.mono ?_
  rintro e w12 ⟨rfl, h17, _⟩
  have h18 := h17.alloc (.cells #[.int .i64 0, .int .i64 0, .bool false, .bool false, .bool false, .int .i64 0, .int .i64 0, .int .i64 0, .int .i64 0] 40)
  have ho := of_nil h18 (some ⟨s, 0, none⟩) 1 { data := #[117] }
  simp only [sdw0, SdwS.agg, flg0] at ho
  have HX := Lib.hid ho
  clear h17 h18 ho
  go_wp2_with fail
  refine HX.out.mono ?_
  rintro e w13 ⟨rfl, h19⟩
  have h20 := h19.alloc (.cells #[.int .i64 0, .int .i64 0, .bool false, .bool false, .bool false, .int .i64 0, .int .i64 0, .int .i64 0, .int .i64 0] 40)
  have h21 := h20.right.right.right.right
  have k1 := blk_cells h21
  have k2 := blk_cells h21.right.right
  have k3 := blk_cells h21.right.right.right
  have k4 := blk_cells h21.right.right.right.right
  have HH := Lib.hid h21.right.right.right.right.right
  clear h19 h20 h21 HX
  go_wp2
  go_ret
  exact ⟨rfl, HH.out⟩
end
end Go.Proofs.YtapkcgmjadpdiaaDoor

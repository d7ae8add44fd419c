/- The law on descriptors: awake. -/
import Derived.Test.YtapkcgmjadpdiaaDoorStore5
import Derived.Test.YtapkcgmjadpdiaaDoorOf2
namespace Go.Proofs.YtapkcgmjadpdiaaDoor
set_option linter.unusedVariables false
set_option linter.unusedSimpArgs false
open Go.RowKit Go.Maps Go.Sp Go.Proofs.YtapkcgmjadpdiaaDoorW.PrintLast
section
variable {w : World} {R : HProp}

theorem size1 (a : UInt8) : (⟨#[a]⟩ : ByteArray).size ≤ maxLen := by show 1 ≤ maxLen; unfold maxLen; omega
theorem listB_one {u : ByteArray} {f : Flg} (h : userB u = true) : listB [⟨u, f⟩] = true := by simp [listB, ascB, h]
theorem userB_star : userB { data := #[42] } = true := by simp [userB, ByteArray.toList_eq]
theorem userB_u : userB { data := #[117] } = true := by
  have : signsB { data := #[117] } 16 = true := by decide
  simp [userB, this]
theorem flags_nil (u : ByteArray) : flagsB [] u = flg0 := by simp [flagsB, listB, ascB, hasU]
theorem flags_star (f : Flg) (u : ByteArray) : flagsB [⟨{ data := #[42] }, f⟩] u = f := by
  simp only [flagsB, listB_one userB_star, if_true, hasU, star1, List.find?_cons, List.find?_nil]
  have e : (({ data := #[42] } : ByteArray).toList == ({ data := #[42] } : ByteArray).toList) = true := beq_self_eq_true _
  rw [e]
  cases h : (({ data := #[42] } : ByteArray).toList == u.toList) <;> rfl
theorem flags_me (f : Flg) {u : ByteArray} (h : userB u = true) : flagsB [⟨u, f⟩] u = f := by
  simp [flagsB, listB_one h, hasU]
/-- A slice of one term, newly built. -/
theorem reads_one {b : Nat} {u : ByteArray} {f1 f2 f3 : Bool} {T : TypeId} (h : Holds w (blk b (.cells #[.string u, .bool f1, .bool f2, .bool f3] T (0, 0)) * R)) :
    Reads w 4 (.slice (some ⟨b, 0, none⟩) 1 1) 1 (terms [⟨u, ⟨f1, f2, f3⟩⟩]) := by
  refine ⟨rfl, by unfold maxLen; omega, .inr ⟨b, 0, 1, rfl, h.lt, fun j v hj => ?_⟩⟩
  have hg := h.get
  simp only [World.cell?, hg, Nat.zero_add]
  simpa [terms, Trm.cells] using hj


theorem add_seg {t : Nat} {C : TreeC} (h : Holds w (treeH t C * R)) {d : Int} {n : ByteArray} (hd : I64 d) (hn : n.size ≤ maxLen) (hok : signsB n 32 = true) {c : Int} (hc : alGet C.dirs d = some c) (hcb : 0 ≤ c ∧ c < 4294967296) (hf : C.find d n = none)
    (b : Brn) (aa : Option Addr) (cc : Nat) (hk : b.kind = 1) (hu : 1 ≤ b.uid ∧ b.uid ≤ 9223372036854775807) (hl : listB b.acl = true) (hb : brkB b.b = true) (hfu : alGet C.uids b.uid = none)
    (hr : Reads w 4 (.slice aa b.acl.length cc) b.acl.length (terms b.acl)) (hus : ∀ t ∈ b.acl, t.user.size ≤ maxLen) (hln : b.acl.length < 4294967296) :
    Calls Tryd.prog 10 #[.pointer (some ⟨t, 0, none⟩), .int .i64 d, .string n, b.agg (.slice aa b.acl.length cc)] w fun e w' => ∃ nb, e = .returned (.tuple #[.int .i64 0, .int .i64 0]) ∧ Holds w' (treeH t (C.added d n (segOf b) nb c) * R) ∧ alGet C.nodes nb = none :=
  add_ok h hd hn hok hc hcb hf b aa b.acl.length cc (segOf b) (.inl (by simp [segOf])) (fun _ => ⟨hu.1, hu.2, hfu⟩) (fun hh => by simp [segOf] at hh)
    (fun _ _ hW hB => clean_seg hW b aa cc hk hu hl hb hfu (hr.below hB) hus hln)

set_option maxRecDepth 100000 in
set_option maxHeartbeats 1000000 in
theorem awake_ok (h : Holds w R) :
    Calls Tryd.prog 6 #[] w fun e w' => e = .returned (.bool true) ∧ Holds w' R := by
  have HH := Lib.hid h
  clear h
  go_enter Tryd.func6, Tryd.ntmps6
  go_wp2_with fail
  refine (tnew_any HH.out).mono ?_
  rintro e w1 ⟨t, rfl, h1⟩
  go_wp2_with fail
  refine (snew_any 10 h1).mono ?_
  rintro e w2 ⟨s, rfl, h2⟩
  go_wp2_with fail
  have hm := smake_ok (n := 4) h2 (by simp; omega) (by simp) (by simp) (by simp [StoreC.may]; omega) rfl
  simp only [Int.reduceAdd] at hm
  refine hm.mono ?_
  rintro e w3 ⟨v, rfl, h3⟩
  have h3 := h3.to (star_left_comm _ _ _)
  have HT := Lib.hid h3
  clear h1 h2 h3 hm
  go_wp2_with fail
  have h4 := HT.out.alloc (.cells #[.string { data := #[42] }, .bool true, .bool false, .bool false] 45)
  have hr := reads_one h4
  have ha := add_seg (h4.to (star_left_comm _ _ _)) (d := 0) (n := { data := #[97] }) (I64.of (by omega)) (size1 _) (by decide) (c := 0) rfl (by omega) rfl ⟨1, 1, 0, { data := #[] }, false, [⟨{ data := #[42] }, ⟨true, false, false⟩⟩], ⟨4, 4, 4, 0⟩⟩ (some ⟨w3.heap.size, 0, none⟩) 1 rfl (by simp) (listB_one userB_star) (by decide) rfl hr (by intro t ht; simp at ht; subst ht; exact size1 _) (by simp)
  refine ha.mono ?_
  rintro e w4 ⟨nb, rfl, h5, _⟩
  have h6 := (h5.to (star_left_comm _ _ _)).right
  have ho := of_ok h6 (u := 1) (I64.of (by omega)) { data := #[117] } (nb := nb) (by simp [TreeC.added, segOf, alGet]) (x := ⟨_, 0, 1⟩) (by simp [TreeC.added, alGet]; rfl) (by simp [segOf]) (by simp only [segOf]; intro t ht; simp at ht; subst ht; exact size1 _) (sg := ⟨v, List.replicate 4 0⟩) rfl
  simp only [sdwOf, segOf, flags_star, SdwS.agg, List.length_replicate, if_false, Bool.false_eq_true] at ho
  have HO := Lib.hid ho
  have r1 := fun w => sread_any ⟨1, 4, ⟨true, false, false⟩, ⟨4, 4, 4, 0⟩⟩ 4 3 w
  have r2 := fun w => sread_any ⟨1, 4, ⟨true, false, false⟩, ⟨4, 4, 4, 0⟩⟩ 4 4 w
  have r3 := fun w => sread_any ⟨1, 4, ⟨true, false, false⟩, ⟨4, 4, 4, 0⟩⟩ 5 0 w
  simp only [show inE 4 (readE ⟨4, 4, 4, 0⟩ ⟨true, false, false⟩ 4) 3 = 0 from by decide, show inE 4 (readE ⟨4, 4, 4, 0⟩ ⟨true, false, false⟩ 4) 4 = 8 from by decide, show inE 4 (readE ⟨4, 4, 4, 0⟩ ⟨true, false, false⟩ 5) 0 = 10 from by decide, SdwS.agg] at r1 r2 r3
  have HR1 := Lib.hid r1
  have HR2 := Lib.hid r2
  have HR3 := Lib.hid r3
  clear ho h6 h5 ha hr h4 HT r1 r2 r3
  go_wp2_with fail
  refine HO.out.mono ?_
  rintro e w5 ⟨rfl, h7, _⟩
  have h8 := (h7.right.right.alloc (.cells #[.int .i64 1, .int .i64 4, .bool true, .bool false, .bool false, .int .i64 4, .int .i64 4, .int .i64 4, .int .i64 0] 40))
  have HH8 := Lib.hid h8
  clear h7 h8 HO
  go_wp2_with fail
  refine (HR1.out _).mono ?_
  rintro e w6 ⟨rfl, hb6⟩
  have h9 := HH8.out.below hb6
  have c9 := blk_cells h9
  have HH9 := Lib.hid h9
  clear h9 hb6 HH8
  go_wp2_with fail
  refine (HR2.out _).mono ?_
  rintro e w7 ⟨rfl, hb7⟩
  have h10 := HH9.out.below hb7
  have c10 := blk_cells h10
  have HH10 := Lib.hid h10
  clear h10 hb7 HH9 c9
  go_wp2_with fail
  refine (HR3.out _).mono ?_
  rintro e w8 ⟨rfl, hb8⟩
  have h11 := HH10.out.below hb8
  have HH11 := Lib.hid h11
  clear h11 hb8 HH10 c10
  go_wp2
  go_ret
  exact ⟨rfl, HH11.out.right⟩
end
end Go.Proofs.YtapkcgmjadpdiaaDoor

/- The laws on the tree: awake. -/
import Derived.Test.YtapkcgmjadpdiaaDoorLk
import Derived.Test.YtapkcgmjadpdiaaDoorRw
import Derived.Test.YtapkcgmjadpdiaaDoorTwLen
import Derived.Test.YtapkcgmjadpdiaaDoorAde
import Derived.Test.YtapkcgmjadpdiaaDoorNam
namespace Go.Proofs.YtapkcgmjadpdiaaDoor
set_option linter.unusedVariables false
set_option linter.unusedSimpArgs false
open Go.RowKit Go.Maps Go.Sp Go.Proofs.YtapkcgmjadpdiaaDoorW.PrintLast
section
variable {w : World} {R : HProp}
theorem sz1 (a : UInt8) : (⟨#[a]⟩ : ByteArray).size ≤ maxLen := by show 1 ≤ maxLen; unfold maxLen; omega

theorem add_dir {t : Nat} {C : TreeC} (h : Holds w (treeH t C * R)) {d : Int} {n : ByteArray} (hd : I64 d) (hn : n.size ≤ maxLen) (hok : signsB n 32 = true) {c : Int} (hc : alGet C.dirs d = some c) (hcb : 0 ≤ c ∧ c < 4294967296) (hf : C.find d n = none)
    (b : Brn) (aa : Option Addr) (nn cc : Nat) (hk : b.kind = 2) (hnx : 0 ≤ C.next ∧ C.next < 4294967296) (hnd : alGet C.dirs (C.next + 1) = none) (hdn : d ≠ C.next + 1) :
    Calls Tryd.prog 10 #[.pointer (some ⟨t, 0, none⟩), .int .i64 d, .string n, b.agg (.slice aa nn cc)] w fun e w' => ∃ nb, e = .returned (.tuple #[.int .i64 (C.next + 1), .int .i64 0]) ∧ Holds w' (treeH t (C.added d n (dirOf (C.next + 1)) nb c) * R) ∧ alGet C.nodes nb = none :=
  add_ok h hd hn hok hc hcb hf b aa nn cc (dirOf (C.next + 1)) (.inr (.inl rfl)) (fun hh => by simp [dirOf] at hh) (fun _ => ⟨rfl, hnx, hnd, hdn⟩)
    (fun _ _ hW _ => clean_dir hW b (.slice aa nn cc) hk hnx)

set_option maxRecDepth 100000 in
set_option maxHeartbeats 1000000 in
theorem awake7_ok (h : Holds w R) :
    Calls Tryd.prog 17 #[] w fun e w' => e = .returned (.bool true) ∧ Holds w' R := by
  have HH := Lib.hid h
  clear h
  go_enter Tryd.func17, Tryd.ntmps17
  go_wp2_with fail
  refine (tnew_any HH.out).mono ?_
  rintro e w1 ⟨t, rfl, h1⟩
  have HT := Lib.hid h1
  clear h1
  go_wp2_with fail
  have ha := add_dir HT.out (d := 0) (n := { data := #[100] }) (I64.of (by omega)) (sz1 _) (by decide) (c := 0) rfl (by omega) rfl ⟨2, 0, 0, { data := #[] }, false, [], ⟨0, 0, 0, 0⟩⟩ none 0 0 rfl (by simp) rfl (by simp)
  simp only [Int.reduceAdd] at ha
  refine ha.mono ?_
  rintro e w2 ⟨nb, rfl, h2, _⟩
  have hl := look_some h2 (d := 0) (n := { data := #[100] }) (I64.of (by omega)) (sz1 _) (nb := nb) (by simp [TreeC.find, TreeC.added, alGet]) (x := ⟨_, 0, 1⟩) (by simp [TreeC.added, alGet]; rfl) (by simp [dirOf])
  simp only [dirOf, Brn.agg] at hl
  have HL := Lib.hid hl
  clear h2 hl ha HT
  go_wp2_with fail
  refine HL.out.mono ?_
  rintro e w3 ⟨v, rfl, h3⟩
  obtain ⟨a3, c3, rfl, _⟩ := Holds.own_slice h3
  have h4 := h3.alloc (.cells #[.int .i64 2, .int .i64 0, .int .i64 1, .string ⟨#[]⟩, .bool false, .slice a3 0 c3, .int .i64 0, .int .i64 0, .int .i64 0, .int .i64 0] 37)
  have k4 := blk_cells h4
  have hn := len_any (h4.to (Q := treeH t _ * (blk w3.heap.size _ * (aclH (.slice a3 0 c3) [] * R))) (by ac_rfl)) (d := 0) (I64.of (by omega))
  simp only [TreeC.added, dirOf, alSet, alGet, if_true, Int.reduceAdd, List.cons_append, List.nil_append, Option.getD_some] at hn
  have HN := Lib.hid hn
  have HF := Lib.hid h4.right.right.right
  clear h3 h4 hn HL
  go_wp2_with fail
  refine HN.out.mono ?_
  rintro e w4 ⟨rfl, rfl⟩
  go_wp2
  go_ret
  exact ⟨rfl, HF.out⟩
end
end Go.Proofs.YtapkcgmjadpdiaaDoor

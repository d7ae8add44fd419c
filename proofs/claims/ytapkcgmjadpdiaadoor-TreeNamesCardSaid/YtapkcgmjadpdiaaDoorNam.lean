/- tree.Name: one more name. -/
import Derived.Test.YtapkcgmjadpdiaaDoorTw6
namespace Go.Proofs.YtapkcgmjadpdiaaDoor
set_option linter.unusedVariables false
set_option linter.unusedSimpArgs false
open Go.RowKit Go.Maps Go.Sp Go.Proofs.YtapkcgmjadpdiaaDoorW.PrintLast
section
variable {w : World} {t : Nat} {C : TreeC} {R : HProp}

set_option maxRecDepth 100000 in
theorem name_none (h : Holds w (treeH t C * R)) {d : Int} {n m : ByteArray} (hd : I64 d) (hn : n.size ≤ maxLen) (hf : C.find d n = none) :
    Calls Tryd.prog 22 #[.pointer (some ⟨t, 0, none⟩), .int .i64 d, .string n, .string m] w fun e w' => e = .returned (.int .i64 4) ∧ Holds w' (treeH t C * R) := by
  have hg := get_any h hd hn
  rw [hf] at hg
  have HG := Lib.hid hg
  have HH := Lib.hid h
  clear hg h hf
  go_enter Tryd.func22, Tryd.ntmps22
  go_wp2_with fail
  refine HG.out.mono ?_
  rintro e w' ⟨rfl, rfl⟩
  simp only [optP]
  go_wp2_with fail
  refine (none_any t _).mono ?_
  rintro e w' ⟨rfl, rfl⟩
  go_wp2
  go_ret
  exact ⟨rfl, HH.out⟩

set_option maxRecDepth 100000 in
theorem name_bad (h : Holds w (treeH t C * R)) {d : Int} {n m : ByteArray} (hd : I64 d) (hn : n.size ≤ maxLen) {nb : Nat} (hf : C.find d n = some nb) (hm : m.size ≤ maxLen) (hs : signsB m 32 = false) :
    Calls Tryd.prog 22 #[.pointer (some ⟨t, 0, none⟩), .int .i64 d, .string n, .string m] w fun e w' => e = .returned (.int .i64 3) ∧ Holds w' (treeH t C * R) := by
  have hg := get_any h hd hn
  rw [hf] at hg
  have HG := Lib.hid hg
  have HH := Lib.hid h
  have HS := Lib.hid hs
  clear hg h hf hs
  go_enter Tryd.func22, Tryd.ntmps22
  go_wp2_with fail
  refine HG.out.mono ?_
  rintro e w' ⟨rfl, rfl⟩
  simp only [optP, ptrV]
  go_wp2_with fail
  refine (may_any m _ hm).mono ?_
  rintro e w' ⟨rfl, q, rfl⟩
  rw [HS.out]
  go_wp2
  go_ret
  exact ⟨rfl, HH.out.drewN q⟩

set_option maxRecDepth 100000 in
theorem name_there (h : Holds w (treeH t C * R)) {d : Int} {n m : ByteArray} (hd : I64 d) (hn : n.size ≤ maxLen) {nb : Nat} (hf : C.find d n = some nb) (hm : m.size ≤ maxLen) (hs : signsB m 32 = true) {mb : Nat} (hf2 : C.find d m = some mb) :
    Calls Tryd.prog 22 #[.pointer (some ⟨t, 0, none⟩), .int .i64 d, .string n, .string m] w fun e w' => e = .returned (.int .i64 5) ∧ Holds w' (treeH t C * R) := by
  have hg := get_any h hd hn
  rw [hf] at hg
  have HG := Lib.hid hg
  have HH := Lib.hid h
  have HS := Lib.hid hs
  have HF2 := Lib.hid hf2
  clear hg h hf hs hf2
  go_enter Tryd.func22, Tryd.ntmps22
  go_wp2_with fail
  refine HG.out.mono ?_
  rintro e w' ⟨rfl, rfl⟩
  simp only [optP, ptrV]
  go_wp2_with fail
  refine (may_any m _ hm).mono ?_
  rintro e w' ⟨rfl, q, rfl⟩
  rw [HS.out]
  go_wp2_with fail
  refine (get_any (HH.out.drewN q) hd hm).mono ?_
  rintro e w' ⟨rfl, rfl⟩
  rw [HF2.out]
  simp only [optP, ptrV]
  go_wp2
  go_ret
  exact ⟨rfl, HH.out.drewN q⟩

set_option maxRecDepth 100000 in
theorem name_ok (h : Holds w (treeH t C * R)) {d : Int} {n m : ByteArray} (hd : I64 d) (hn : n.size ≤ maxLen) {nb : Nat} (hf : C.find d n = some nb) (hm : m.size ≤ maxLen) (hs : signsB m 32 = true) (hf2 : C.find d m = none)
    {c : Int} (hc : alGet C.dirs d = some c) (hcb : 0 ≤ c ∧ c < 4294967296) {x : Nod} (hx : alGet C.nodes nb = some x) (hmm : 0 ≤ x.many ∧ x.many < 4294967296) :
    Calls Tryd.prog 22 #[.pointer (some ⟨t, 0, none⟩), .int .i64 d, .string n, .string m] w fun e w' => e = .returned (.int .i64 0) ∧ Holds w' (treeH t (C.put d m nb x c) * R) := by
  have hg := get_any h hd hn
  rw [hf] at hg
  have HG := Lib.hid hg
  have HH := Lib.hid h
  have HS := Lib.hid hs
  have HF2 := Lib.hid hf2
  have HX := Lib.hid hx
  have HC := Lib.hid hc
  clear hg h hf hs hf2 hx hc
  go_enter Tryd.func22, Tryd.ntmps22
  go_wp2_with fail
  refine HG.out.mono ?_
  rintro e w' ⟨rfl, rfl⟩
  simp only [optP, ptrV]
  go_wp2_with fail
  refine (may_any m _ hm).mono ?_
  rintro e w' ⟨rfl, q, rfl⟩
  rw [HS.out]
  go_wp2_with fail
  refine (get_any (HH.out.drewN q) hd hm).mono ?_
  rintro e w' ⟨rfl, rfl⟩
  rw [HF2.out]
  simp only [optP]
  go_wp2_with fail
  refine (put_any (HH.out.drewN q) hd hm HF2.out HC.out hcb HX.out hmm).mono ?_
  rintro e w' ⟨rfl, h2⟩
  have HF := Lib.hid h2
  clear h2
  go_wp2
  go_ret
  exact ⟨rfl, HF.out⟩
end
end Go.Proofs.YtapkcgmjadpdiaaDoor

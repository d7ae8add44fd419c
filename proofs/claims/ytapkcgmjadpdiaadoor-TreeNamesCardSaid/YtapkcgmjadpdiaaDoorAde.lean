/- tree.Add: why it may not. -/
import Derived.Test.YtapkcgmjadpdiaaDoorTw5
namespace Go.Proofs.YtapkcgmjadpdiaaDoor
set_option linter.unusedVariables false
set_option linter.unusedSimpArgs false
open Go.RowKit Go.Maps Go.Sp Go.Proofs.YtapkcgmjadpdiaaDoorW.PrintLast
section
variable {w : World} {t : Nat} {C : TreeC} {R : HProp}

set_option maxRecDepth 100000 in
theorem add_nodir (h : Holds w (treeH t C * R)) {d : Int} {n : ByteArray} (hd : I64 d) (hc : alGet C.dirs d = none) (b : Brn) (av : Value) :
    Calls Tryd.prog 10 #[.pointer (some ⟨t, 0, none⟩), .int .i64 d, .string n, b.agg av] w fun e w' => e = .returned (.tuple #[.int .i64 0, .int .i64 4]) ∧ Holds w' (treeH t C * R) := by
  have hA := (h.alloc (.cells (brnCells b av) 37)).to (star_left_comm _ _ _)
  have hi := is_any hA hd
  rw [hc] at hi
  simp only [Option.isSome_none, brnCells] at hi hA
  have HI := Lib.hid hi
  have HA := Lib.hid hA
  clear hi hA h hc
  unfold Brn.agg
  go_enter Tryd.func10, Tryd.ntmps10
  go_wp2_with fail
  refine HI.out.mono ?_
  rintro e w' ⟨rfl, rfl⟩
  go_wp2_with fail
  refine (none_any t _).mono ?_
  rintro e w' ⟨rfl, rfl⟩
  go_wp2
  go_ret2
  exact ⟨rfl, (HA.out.to (star_left_comm _ _ _)).right⟩

set_option maxRecDepth 100000 in
theorem add_bad (h : Holds w (treeH t C * R)) {d : Int} {n : ByteArray} (hd : I64 d) {c : Int} (hc : alGet C.dirs d = some c) (hn : n.size ≤ maxLen) (hs : signsB n 32 = false) (b : Brn) (av : Value) :
    Calls Tryd.prog 10 #[.pointer (some ⟨t, 0, none⟩), .int .i64 d, .string n, b.agg av] w fun e w' => e = .returned (.tuple #[.int .i64 0, .int .i64 3]) ∧ Holds w' (treeH t C * R) := by
  have hA := (h.alloc (.cells (brnCells b av) 37)).to (star_left_comm _ _ _)
  have hi := is_any hA hd
  rw [hc] at hi
  simp only [Option.isSome_some, brnCells] at hi hA
  have HI := Lib.hid hi
  have HA := Lib.hid hA
  have HS := Lib.hid hs
  clear hi hA h hc hs
  unfold Brn.agg
  go_enter Tryd.func10, Tryd.ntmps10
  go_wp2_with fail
  refine HI.out.mono ?_
  rintro e w' ⟨rfl, rfl⟩
  go_wp2_with fail
  refine (may_any n _ hn).mono ?_
  rintro e w' ⟨rfl, q, rfl⟩
  rw [HS.out]
  go_wp2
  go_ret2
  exact ⟨rfl, ((HA.out.to (star_left_comm _ _ _)).right).drewN q⟩

set_option maxRecDepth 100000 in
theorem add_there (h : Holds w (treeH t C * R)) {d : Int} {n : ByteArray} (hd : I64 d) {c : Int} (hc : alGet C.dirs d = some c) (hn : n.size ≤ maxLen) (hs : signsB n 32 = true) {nb : Nat} (hf : C.find d n = some nb) (b : Brn) (av : Value) :
    Calls Tryd.prog 10 #[.pointer (some ⟨t, 0, none⟩), .int .i64 d, .string n, b.agg av] w fun e w' => e = .returned (.tuple #[.int .i64 0, .int .i64 5]) ∧ Holds w' (treeH t C * R) := by
  have hA := (h.alloc (.cells (brnCells b av) 37)).to (star_left_comm _ _ _)
  have hi := is_any hA hd
  rw [hc] at hi
  simp only [Option.isSome_some, brnCells] at hi hA
  have HI := Lib.hid hi
  have HA := Lib.hid hA
  have HS := Lib.hid hs
  have HF := Lib.hid hf
  clear hi hA h hc hs hf
  unfold Brn.agg
  go_enter Tryd.func10, Tryd.ntmps10
  go_wp2_with fail
  refine HI.out.mono ?_
  rintro e w' ⟨rfl, rfl⟩
  go_wp2_with fail
  refine (may_any n _ hn).mono ?_
  rintro e w' ⟨rfl, q, rfl⟩
  rw [HS.out]
  go_wp2_with fail
  refine (get_any (HA.out.drewN q) hd hn).mono ?_
  rintro e w' ⟨rfl, rfl⟩
  rw [HF.out]
  simp only [optP, ptrV]
  go_wp2
  go_ret2
  exact ⟨rfl, ((HA.out.to (star_left_comm _ _ _)).right).drewN q⟩
end
end Go.Proofs.YtapkcgmjadpdiaaDoor

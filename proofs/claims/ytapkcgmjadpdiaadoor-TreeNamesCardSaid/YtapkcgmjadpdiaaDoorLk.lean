/- tree.Look where something stands; tree.Name. -/
import Derived.Test.YtapkcgmjadpdiaaDoorTw6
namespace Go.Proofs.YtapkcgmjadpdiaaDoor
set_option linter.unusedVariables false
set_option linter.unusedSimpArgs false
open Go.RowKit Go.Maps Go.Sp Go.Proofs.YtapkcgmjadpdiaaDoorW.PrintLast
section
variable {w : World} {t : Nat} {C : TreeC} {R : HProp}

set_option maxRecDepth 100000 in
set_option maxHeartbeats 1000000 in
theorem look_some (h : Holds w (treeH t C * R)) {d : Int} {n : ByteArray} (hd : I64 d) (hn : n.size ≤ maxLen) {nb : Nat} (hf : C.find d n = some nb) {x : Nod} (hx : alGet C.nodes nb = some x) (hac : x.b.acl.length < 4294967296) :
    Calls Tryd.prog 19 #[.pointer (some ⟨t, 0, none⟩), .int .i64 d, .string n] w fun e w' => ∃ v, e = .returned (.tuple #[x.b.agg v, .bool true]) ∧ Holds w' (aclH v x.b.acl * (treeH t C * R)) := by
  have hA := (h.alloc (.cells (brnCells brn0 (.slice none 0 0)) 37)).to (star_left_comm _ _ _)
  have hg := get_any hA hd hn
  rw [hf] at hg
  have ho := out_tree hA hx hac
  simp only [brnCells, brn0, optP, ptrV] at hg ho
  have HG := Lib.hid hg
  have HO := Lib.hid ho
  clear hA hg ho h hf hx
  go_enter Tryd.func19, Tryd.ntmps19
  go_wp2_with fail
  refine HG.out.mono ?_
  rintro e w' ⟨rfl, rfl⟩
  go_wp2_with fail
  refine HO.out.mono ?_
  rintro e w5 ⟨v5, rfl, h5, _⟩
  obtain ⟨a5, c5, rfl, _⟩ := Holds.own_slice h5
  have h6 := h5.to (Q := blk w.heap.size (.cells #[.int .i64 0, .int .i64 0, .int .i64 0, .string ⟨#[]⟩, .bool false, .slice none 0 0, .int .i64 0, .int .i64 0, .int .i64 0, .int .i64 0] 37) * (aclH (.slice a5 x.b.acl.length c5) x.b.acl * (treeH t C * R))) (by ac_rfl)
  have hk6 := blk_cells h6
  have hq6 := blk_free h6
  have HE := Lib.hid (holds_setBrn h6 rfl x.b (.slice a5 x.b.acl.length c5))
  clear h5 h6 HO HG
  unfold Brn.agg
  go_wp2
  exact ret_branch (b := x.b) (i := 6) (j := 7) rfl rfl rfl rfl HE.out.get ⟨_, rfl, HE.out.right⟩
end
end Go.Proofs.YtapkcgmjadpdiaaDoor

/- Pointers to nodes, compared. -/
import Derived.LaidEql
import Derived.Test.YtapkcgmjadpdiaaDoorTree
namespace Go.Proofs.YtapkcgmjadpdiaaDoor
set_option linter.unusedVariables false
set_option linter.unusedSimpArgs false
open Go.RowKit Go.Maps Go.Sp
theorem sizeNode (w : World) : (sizeOf 82).run Tryd.prog w = .ok 12 w := by kernel_rfl
theorem eqIn_node (m nb : Nat) (w : World) (d : Nat) : (Op.equalIn (d + 1) 78 (.pointer (some ⟨m, 0, none⟩)) (.pointer (some ⟨nb, 0, none⟩))).run Tryd.prog w = (sameAddr ⟨m, 0, none⟩ ⟨nb, 0, none⟩).run Tryd.prog w := by
  simp [Op.equalIn, run_underlying Tryd.underlying78, sizeNode, Result.andThen]
theorem eqNode_same (nb : Nat) (w : World) : (binOp .eql 78 (.pointer (some ⟨nb, 0, none⟩)) (.pointer (some ⟨nb, 0, none⟩))).run Tryd.prog w = .ok (.bool true) w := by
  simp only [binOp]
  simp [Op.equal, show Op.maxDepth = 9999 + 1 from rfl, eqIn_node, run_sameAddr_same, Result.andThen]
theorem eqNode_other {m nb : Nat} {w : World} {ca cb : Array Value} {ta tb : TypeId} (hne : ¬ m = nb) (ha : w.heap[m]? = some (.cells ca ta (0, 0))) (hb : w.heap[nb]? = some (.cells cb tb (0, 0))) :
    (binOp .eql 78 (.pointer (some ⟨m, 0, none⟩)) (.pointer (some ⟨nb, 0, none⟩))).run Tryd.prog w = .ok (.bool false) w := by
  simp only [binOp]
  simp [Op.equal, show Op.maxDepth = 9999 + 1 from rfl, eqIn_node, run_sameAddr_other w (a := ⟨m, 0, none⟩) (b := ⟨nb, 0, none⟩) (fun e => hne (Addr.mk.inj e).1) ha hb, Result.andThen]
theorem eqNode_none (nb : Nat) (w : World) : (binOp .eql 78 (.pointer none) (.pointer (some ⟨nb, 0, none⟩))).run Tryd.prog w = .ok (.bool false) w := by
  have h : ∀ d : Nat, (Op.equalIn (d + 1) 78 (.pointer none) (.pointer (some ⟨nb, 0, none⟩))).run Tryd.prog w = .ok false w := fun d => by simp [Op.equalIn, run_underlying Tryd.underlying78]
  simp only [binOp]
  simp [Op.equal, show Op.maxDepth = 9999 + 1 from rfl, h, Result.andThen]
end Go.Proofs.YtapkcgmjadpdiaaDoor

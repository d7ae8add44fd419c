/- The keys of the hierarchy's maps. -/
import Derived.Test.YtapkcgmjadpdiaaDoorW3
import Derived.Test.YtapkcgmjadpdiaaDoorAl
import Derived.DeepKeys4
namespace Go.Proofs.YtapkcgmjadpdiaaDoor
set_option linter.unusedVariables false
set_option linter.unusedSimpArgs false
open Go.RowKit Go.Maps Go.Sp

theorem laidOut : laidOutB Tryd.prog = true := by kernel_rfl
theorem keyRow : (92 : TypeId) < Tryd.prog.types.size := of_decide_eq_true (by kernel_rfl)
theorem keyWide : (match Tryd.prog.underlying 92 with | some (.array _ _) | some (.struct _) => true | _ => false) = true := by kernel_rfl
set_option maxRecDepth 1000000 in
theorem keyLaw : Keyed Tryd.prog 92 := Keyed.of_law (deep_law_laid laidOut (m := 3) (by omega) keyRow (by kernel_rfl) keyWide)
theorem intLaw : Keyed Tryd.prog 3 := int_keyed Tryd.underlying3

def I64 (a : Int) : Prop := (Lit.int .i64 a).wf = true
theorem I64.of {a : Int} (h : -9223372036854775808 ≤ a ∧ a ≤ 9223372036854775807) : I64 a := by simp [I64, Lit.wf, IntKind.min, IntKind.max, IntKind.signed, IntKind.bits]; omega
theorem I64.bd {a : Int} (h : I64 a) : -9223372036854775808 ≤ a ∧ a ≤ 9223372036854775807 := by
  simp [I64, Lit.wf, IntKind.min, IntKind.max, IntKind.signed, IntKind.bits] at h; omega
def keyV (p : Int × ByteArray) : Value := .agg #[.int .i64 p.1, .string p.2]
def intV (d : Int) : Value := .int .i64 d
def ptrV (b : Nat) : Value := .pointer (some ⟨b, 0, none⟩)
theorem keyV_inj (a b : Int × ByteArray) (h : keyV a = keyV b) : a = b := by
  obtain ⟨a1, a2⟩ := a; obtain ⟨b1, b2⟩ := b
  simp [keyV] at h; rw [h.1, h.2]
theorem intV_inj (a b : Int) (h : intV a = intV b) : a = b := by simpa [intV] using h
set_option maxRecDepth 1000000 in
theorem okKey {d : Int} {n : ByteArray} (hd : I64 d) (hn : n.size ≤ maxLen) : OkKey Tryd.prog 92 (keyV (d, n)) := by
  refine ⟨.string (keyBytes [.int .i64 d, .string n.data.toList]), ?_⟩
  have hk : Tryd.prog.keyType 92 = true := by kernel_rfl
  have hc : Tryd.prog.cellsOf 92 = 2 := by kernel_rfl
  have hc1 : Tryd.prog.cellsOf 3 = 1 := by kernel_rfl
  have hc2 : Tryd.prog.cellsOf 9 = 1 := by kernel_rfl
  have hf : (keyV (d, n)).formed Tryd.prog 92 = true := by simp only [keyV, Value.formed, Tryd.underlying92, hc]; rfl
  simp only [keyOf, Tryd.underlying92, hk, hf, Bool.and_self, if_true]
  have hd' : (Lit.int .i64 d).wf = true := hd
  obtain ⟨m, hm⟩ : ∃ m, Tryd.prog.types.size + 1 = m + 2 := ⟨Tryd.prog.types.size - 1, by have h : (0 : Nat) < Tryd.prog.types.size := Nat.lt_of_le_of_lt (Nat.zero_le _) keyRow; omega⟩
  rw [hm]
  clear hm hf hk hd
  simp [keyV, Value.cells, Program.keyLits, Tryd.underlying92, Tryd.underlying3, Tryd.underlying9, hc, hc1, hc2, hd', hn]
theorem okInt {d : Int} (hd : I64 d) : OkKey Tryd.prog 3 (intV d) := ⟨_, keyOf_int_mk Tryd.underlying3 hd⟩


end Go.Proofs.YtapkcgmjadpdiaaDoor

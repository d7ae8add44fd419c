/- Branches handed out. -/
import Derived.Test.YtapkcgmjadpdiaaDoorTw2
namespace Go.Proofs.YtapkcgmjadpdiaaDoor
set_option linter.unusedVariables false
set_option linter.unusedSimpArgs false
open Go.RowKit Go.Maps Go.Sp

theorem bcell {W w1 : World} (hb : Below W.heap.size W w1) : (∀ b o, b < W.heap.size → w1.cell? ⟨b, o, none⟩ = W.cell? ⟨b, o, none⟩) ∧ (∀ b o, b < W.heap.size → w1.frozen? ⟨b, o, none⟩ = W.frozen? ⟨b, o, none⟩) :=
  ⟨fun b o h => hb.cell (p := ⟨b, o, none⟩) h, fun b o h => hb.frozen (p := ⟨b, o, none⟩) h⟩

theorem blk_cells {w : World} {b : Nat} {cs : Array Value} {T : TypeId} {fz : Nat × Nat} {R : HProp} (h : Holds w (blk b (.cells cs T fz) * R)) (i : Nat) : w.cell? ⟨b, i, none⟩ = cs[i]? := by simp [World.cell?, h.get]
theorem blk_free {w : World} {b : Nat} {cs : Array Value} {T : TypeId} {R : HProp} (h : Holds w (blk b (.cells cs T (0, 0)) * R)) (i : Nat) : w.frozen? ⟨b, i, none⟩ = false := by simp [World.frozen?, h.get]
/-- The ten cells of a branch. -/
structure BrnAt (w : World) (nb o : Nat) (b : Brn) (av : Value) : Prop where
  k0 : w.cell? ⟨nb, o, none⟩ = some (.int .i64 b.kind)
  k1 : w.cell? ⟨nb, o + 1, none⟩ = some (.int .i64 b.uid)
  k2 : w.cell? ⟨nb, o + 2, none⟩ = some (.int .i64 b.dir)
  k3 : w.cell? ⟨nb, o + 3, none⟩ = some (.string b.link)
  k4 : w.cell? ⟨nb, o + 4, none⟩ = some (.bool b.obj)
  k5 : w.cell? ⟨nb, o + 5, none⟩ = some av
  k6 : w.cell? ⟨nb, o + 6, none⟩ = some (.int .i64 b.b.r1)
  k7 : w.cell? ⟨nb, o + 7, none⟩ = some (.int .i64 b.b.r2)
  k8 : w.cell? ⟨nb, o + 8, none⟩ = some (.int .i64 b.b.r3)
  k9 : w.cell? ⟨nb, o + 9, none⟩ = some (.int .i64 b.b.gates)
theorem nod_at {w : World} {nb : Nat} {x : Nod} {av : Value} {R : HProp} (h : Holds w (blk nb (.cells (nodCells x av) 82 (0, 0)) * R)) : BrnAt w nb 0 x.b av := by
  have := h.get
  constructor <;> simp [World.cell?, this, nodCells]

def brnCells (b : Brn) (v : Value) : Array Value := #[.int .i64 b.kind, .int .i64 b.uid, .int .i64 b.dir, .string b.link, .bool b.obj, v, .int .i64 b.b.r1, .int .i64 b.b.r2, .int .i64 b.b.r3, .int .i64 b.b.gates]
def setBrn (w : World) (n : Nat) (b : Brn) (v : Value) : World :=
  (((((((((w.setCell ⟨n, 0, none⟩ (.int .i64 b.kind)).setCell ⟨n, 1, none⟩ (.int .i64 b.uid)).setCell ⟨n, 2, none⟩ (.int .i64 b.dir)).setCell ⟨n, 3, none⟩ (.string b.link)).setCell ⟨n, 4, none⟩ (.bool b.obj)).setCell ⟨n, 5, none⟩ v).setCell ⟨n, 6, none⟩ (.int .i64 b.b.r1)).setCell ⟨n, 7, none⟩ (.int .i64 b.b.r2)).setCell ⟨n, 8, none⟩ (.int .i64 b.b.r3)).setCell ⟨n, 9, none⟩ (.int .i64 b.b.gates)
theorem set_ten (cs : Array Value) (hs : cs.size = 10) (v0 v1 v2 v3 v4 v5 v6 v7 v8 v9 : Value) :
    (((((((((cs.setIfInBounds 0 v0).setIfInBounds 1 v1).setIfInBounds 2 v2).setIfInBounds 3 v3).setIfInBounds 4 v4).setIfInBounds 5 v5).setIfInBounds 6 v6).setIfInBounds 7 v7).setIfInBounds 8 v8).setIfInBounds 9 v9 = #[v0, v1, v2, v3, v4, v5, v6, v7, v8, v9] := by
  apply Array.ext'
  simp only [Array.toList_setIfInBounds]
  have hl : cs.toList.length = 10 := by simpa using hs
  match cs.toList, hl with
  | [_, _, _, _, _, _, _, _, _, _], _ => rfl
theorem holds_setBrn {w : World} {n : Nat} {cs : Array Value} {T : TypeId} {fz : Nat × Nat} {P : HProp} (h : Holds w (blk n (.cells cs T fz) * P)) (hs : cs.size = 10) (b : Brn) (v : Value) :
    Holds (Go.Proofs.YtapkcgmjadpdiaaDoor.setBrn w n b v) (blk n (.cells (brnCells b v) T fz) * P) := by
  have := (((((((((h.setCell (i := 0) (.int .i64 b.kind)).setCell (i := 1) (.int .i64 b.uid)).setCell (i := 2) (.int .i64 b.dir)).setCell (i := 3) (.string b.link)).setCell (i := 4) (.bool b.obj)).setCell (i := 5) v).setCell (i := 6) (.int .i64 b.b.r1)).setCell (i := 7) (.int .i64 b.b.r2)).setCell (i := 8) (.int .i64 b.b.r3)).setCell (i := 9) (.int .i64 b.b.gates)
  rw [set_ten _ hs] at this
  exact this
theorem below_setBrn {B : Nat} {w w1 : World} (h : Below B w w1) {n : Nat} (hn : B ≤ n) (b : Brn) (v : Value) : Below B w (setBrn w1 n b v) := by
  unfold setBrn
  repeat (with_reducible refine Below.setCell ?_ hn _)
  exact h
/-- The end of a function that hands out a branch and one thing more. -/
theorem ret_branch {fn : Func} {Q : Ending → World → Prop} {a : Act} {W : World} {i j n : Nat} {b : Brn} {v x : Value} {fz : Nat × Nat} (hr : fn.results = #[.cell i 37, .tmp j]) (hi : a.tmps.getD i undef = .pointer (some ⟨n, 0, none⟩)) (hj : a.tmps.getD j undef = x) (hd : a.defers = [])
    (hg : W.heap[n]? = some (.cells (brnCells b v) 37 fz)) (hQ : Q (.returned (.tuple #[b.agg v, x])) W) : bodyPost Tryd.prog fn Q .ret a W := by
  refine bodyPost_ret (v := .tuple #[b.agg v, x]) ?_ hd hQ
  have hi' : a.tmps[i]?.getD undef = .pointer (some ⟨n, 0, none⟩) := by simpa using hi
  have hj' : a.tmps[j]?.getD undef = x := by simpa using hj
  have h0 := fun k => (show W.cell? ⟨n, k, none⟩ = (brnCells b v)[k]? by simp [World.cell?, hg])
  have e0 := h0 0
  have e1 := h0 1
  have e2 := h0 2
  have e3 := h0 3
  have e4 := h0 4
  have e5 := h0 5
  have e6 := h0 6
  have e7 := h0 7
  have e8 := h0 8
  have e9 := h0 9
  clear h0 hg
  simp [brnCells] at e0 e1 e2 e3 e4 e5 e6 e7 e8 e9
  simp [results, hr, hi', hj', go_sem, Brn.agg, e0, e1, e2, e3, e4, e5, e6, e7, e8, e9]

theorem out_nil (w : World) :
    Calls Tryd.prog 42 #[.pointer none] w fun e w' => e = .returned (.tuple #[.agg #[.int .i64 0, .int .i64 0, .int .i64 0, .string ⟨#[]⟩, .bool false, .slice none 0 0, .int .i64 0, .int .i64 0, .int .i64 0, .int .i64 0], .bool false]) ∧ Below w.heap.size w w' := by
  go_enter Tryd.func42, Tryd.ntmps42
  go_wp2
  exact bodyPost_ret (v := .tuple #[.agg #[.int .i64 0, .int .i64 0, .int .i64 0, .string ⟨#[]⟩, .bool false, .slice none 0 0, .int .i64 0, .int .i64 0, .int .i64 0, .int .i64 0], .bool false]) (by simp [results, Tryd.results42, go_sem]) rfl ⟨rfl, (Below.refl _ _).alloc (Nat.le_refl _) _⟩

set_option maxRecDepth 100000 in
set_option maxHeartbeats 1000000 in
theorem out_some {w : World} {nb : Nat} {b : Brn} {aa : Option Addr} {cc : Nat} {R : HProp} (hR : Holds w R) (hb : BrnAt w nb 0 b (.slice aa b.acl.length cc)) (hlt : nb < w.heap.size) (hr : Reads w 4 (.slice aa b.acl.length cc) b.acl.length (terms b.acl)) (hn : b.acl.length < 4294967296) :
    Calls Tryd.prog 42 #[.pointer (some ⟨nb, 0, none⟩)] w fun e w' => ∃ v, e = .returned (.tuple #[b.agg v, .bool true]) ∧ Holds w' (aclH v b.acl * R) ∧ Below w.heap.size w w' := by
  obtain ⟨k0, k1, k2, k3, k4, k5, k6, k7, k8, k9⟩ := hb
  simp only [Nat.zero_add] at k1 k2 k3 k4 k5 k6 k7 k8 k9
  have HN := Lib.hid hn
  clear hn
  go_enter Tryd.func42, Tryd.ntmps42
  go_wp2_with fail
  refine (cloneTerm_any _ b.acl _ _ ((hR.alloc _).alloc _) (hr.below ?_) HN.out).mono ?_
  · exact ((Below.refl _ _).alloc (Nat.le_refl _) _).alloc (by simp) _
  rintro e w1 ⟨v1, rfl, hH, hB⟩
  obtain ⟨a1, c1, rfl, _⟩ := hH.own_slice
  obtain ⟨hc, hf⟩ := bcell hB
  have hz : w.heap.size + 2 ≤ w1.heap.size := by have := hB.size; simpa using this
  have hB' := hB.mono (B' := w.heap.size) (by simp; omega)
  have hS : Holds w1 (blk w.heap.size (.cells #[.int .i64 0, .int .i64 0, .int .i64 0, .string ⟨#[]⟩, .bool false, .slice none 0 0, .int .i64 0, .int .i64 0, .int .i64 0, .int .i64 0] 37 (0, 0)) * (box (w.heap.size + 1) * (aclH (.slice a1 b.acl.length c1) b.acl * R))) := by
    have h1 := hH.boxed2.to (Q := blk w.heap.size _ * (box _ * (aclH (.slice a1 b.acl.length c1) b.acl * R))) (by unfold aclH; ac_rfl)
    simpa using h1
  have hE := holds_setBrn (hS.setBox2 5 (.slice a1 b.acl.length c1)) rfl b (.slice a1 b.acl.length c1)
  have HE := Lib.hid hE.right.right
  have HG := Lib.hid hE.get
  have hB9 : Below w.heap.size w w1 := (((Below.refl _ _).alloc (Nat.le_refl _) _).alloc (by simp) _).trans hB'
  have HB := Lib.hid (below_setBrn (hB9.setCell (p := ⟨w.heap.size + 1, 5, none⟩) (by simp) (.slice a1 b.acl.length c1)) (Nat.le_refl _) b (.slice a1 b.acl.length c1))
  clear hH hB hS hE hB' hB9
  go_wp2
  exact ret_branch (i := 2) (j := 3) rfl rfl rfl rfl HG.out ⟨_, rfl, HE.out, HB.out⟩
end Go.Proofs.YtapkcgmjadpdiaaDoor

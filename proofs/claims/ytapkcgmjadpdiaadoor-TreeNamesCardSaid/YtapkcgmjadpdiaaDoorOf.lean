/- sdw.Of: a descriptor, made at each use. -/
import Derived.Test.YtapkcgmjadpdiaaDoorFd2
import Derived.Test.YtapkcgmjadpdiaaDoorStore
namespace Go.Proofs.YtapkcgmjadpdiaaDoor
set_option linter.unusedVariables false
set_option linter.unusedSimpArgs false
open Go.RowKit Go.Maps Go.Sp Go.Proofs.YtapkcgmjadpdiaaDoorW.PrintLast

def sdwCells (x : SdwS) : Array Value := #[.int .i64 x.uid, .int .i64 x.size, .bool x.f.r, .bool x.f.w, .bool x.f.e, .int .i64 x.b.r1, .int .i64 x.b.r2, .int .i64 x.b.r3, .int .i64 x.b.gates]
def sdw0 : SdwS := ⟨0, 0, flg0, ⟨0, 0, 0, 0⟩⟩
theorem ret_sdw {fn : Func} {Q : Ending → World → Prop} {a : Act} {W : World} {i j n : Nat} {y : SdwS} {x : Value} {fz : Nat × Nat} (hr : fn.results = #[.cell i 40, .tmp j]) (hi : a.tmps.getD i undef = .pointer (some ⟨n, 0, none⟩)) (hj : a.tmps.getD j undef = x) (hd : a.defers = [])
    (hg : W.heap[n]? = some (.cells (sdwCells y) 40 fz)) (hQ : Q (.returned (.tuple #[y.agg, x])) W) : bodyPost Tryd.prog fn Q .ret a W := by
  refine bodyPost_ret (v := .tuple #[y.agg, x]) ?_ hd hQ
  have hi' : a.tmps[i]?.getD undef = .pointer (some ⟨n, 0, none⟩) := by simpa using hi
  have hj' : a.tmps[j]?.getD undef = x := by simpa using hj
  have h0 := fun k => (show W.cell? ⟨n, k, none⟩ = (sdwCells y)[k]? by simp [World.cell?, hg])
  have e0 := h0 0
  have e1 := h0 1
  have e2 := h0 2
  have e3 := h0 3
  have e4 := h0 4
  have e5 := h0 5
  have e6 := h0 6
  have e7 := h0 7
  have e8 := h0 8
  clear h0 hg
  simp [sdwCells] at e0 e1 e2 e3 e4 e5 e6 e7 e8
  simp [results, hr, hi', hj', go_sem, SdwS.agg, e0, e1, e2, e3, e4, e5, e6, e7, e8]
def setSdw (w : World) (n : Nat) (x : SdwS) : World :=
  ((((((((w.setCell ⟨n, 0, none⟩ (.int .i64 x.uid)).setCell ⟨n, 1, none⟩ (.int .i64 x.size)).setCell ⟨n, 2, none⟩ (.bool x.f.r)).setCell ⟨n, 3, none⟩ (.bool x.f.w)).setCell ⟨n, 4, none⟩ (.bool x.f.e)).setCell ⟨n, 5, none⟩ (.int .i64 x.b.r1)).setCell ⟨n, 6, none⟩ (.int .i64 x.b.r2)).setCell ⟨n, 7, none⟩ (.int .i64 x.b.r3)).setCell ⟨n, 8, none⟩ (.int .i64 x.b.gates)
theorem set_nine (cs : Array Value) (hs : cs.size = 9) (v0 v1 v2 v3 v4 v5 v6 v7 v8 : Value) :
    ((((((((cs.setIfInBounds 0 v0).setIfInBounds 1 v1).setIfInBounds 2 v2).setIfInBounds 3 v3).setIfInBounds 4 v4).setIfInBounds 5 v5).setIfInBounds 6 v6).setIfInBounds 7 v7).setIfInBounds 8 v8 = #[v0, v1, v2, v3, v4, v5, v6, v7, v8] := by
  apply Array.ext'
  simp only [Array.toList_setIfInBounds]
  have hl : cs.toList.length = 9 := by simpa using hs
  match cs.toList, hl with
  | [_, _, _, _, _, _, _, _, _], _ => rfl
theorem holds_setSdw {w : World} {n : Nat} {cs : Array Value} {T : TypeId} {fz : Nat × Nat} {P : HProp} (h : Holds w (blk n (.cells cs T fz) * P)) (hs : cs.size = 9) (x : SdwS) :
    Holds (setSdw w n x) (blk n (.cells (sdwCells x) T fz) * P) := by
  have := ((((((((h.setCell (i := 0) (.int .i64 x.uid)).setCell (i := 1) (.int .i64 x.size)).setCell (i := 2) (.bool x.f.r)).setCell (i := 3) (.bool x.f.w)).setCell (i := 4) (.bool x.f.e)).setCell (i := 5) (.int .i64 x.b.r1)).setCell (i := 6) (.int .i64 x.b.r2)).setCell (i := 7) (.int .i64 x.b.r3)).setCell (i := 8) (.int .i64 x.b.gates)
  rw [set_nine _ hs] at this
  exact this
theorem below_setSdw {B : Nat} {w w1 : World} (h : Below B w w1) {n : Nat} (hn : B ≤ n) (x : SdwS) : Below B w (setSdw w1 n x) := by
  unfold setSdw
  repeat (with_reducible refine Below.setCell ?_ hn _)
  exact h

section
variable {w : World} {t s : Nat} {C : TreeC} {Q : StoreC} {R : HProp}

set_option maxRecDepth 100000 in
set_option maxHeartbeats 2000000 in
theorem of_none (h : Holds w (treeH t C * (storeH s Q * R))) {u : Int} (hu : I64 u) (user : ByteArray) (hf : alGet C.uids u = none) :
    Calls Tryd.prog 12 #[.pointer (some ⟨t, 0, none⟩), .pointer (some ⟨s, 0, none⟩), .int .i64 u, .string user] w fun e w' => e = .returned (.tuple #[sdw0.agg, .int .i64 4]) ∧ Holds w' (treeH t C * (storeH s Q * R)) ∧ Below w.heap.size w w' := by
  have hA := (h.alloc (.cells (sdwCells sdw0) 40)).to (star_left_comm _ _ _)
  have hBA : Below w.heap.size w (w.alloc (.cells (sdwCells sdw0) 40)) := (Below.refl _ _).alloc (Nat.le_refl _) _
  have hb := byuid_none hA hu hf
  simp only [zeroBrn, sdwCells, sdw0, flg0] at hb hA hBA
  have HB := Lib.hid hb
  have HBA := Lib.hid hBA
  clear hb hA hf h hBA
  go_enter Tryd.func12, Tryd.ntmps12
  go_wp2_with fail
  refine HB.out.mono ?_
  rintro e w1 ⟨rfl, hH, hB⟩
  have h1 := hH.alloc (.cells (brnCells brn0 (.slice none 0 0)) 37)
  have h2 := h1.to (Q := storeH s Q * (treeH t C * (blk w1.heap.size _ * (blk w.heap.size _ * R)))) (by ac_rfl)
  have hs := size_any h2 hu
  simp only [brnCells, brn0] at hs h2
  have HS := Lib.hid hs
  have hB1 := (HBA.out.trans (hB.mono HBA.out.size)).alloc (Nat.le_trans HBA.out.size hB.size) (.cells (brnCells brn0 (.slice none 0 0)) 37)
  simp only [brnCells, brn0] at hB1
  clear hs hB h1 hH
  go_wp2_with fail
  refine HS.out.mono ?_
  rintro e w2 ⟨rfl, rfl⟩
  have h3 := h2.to (Q := blk w.heap.size (.cells #[.int .i64 0, .int .i64 0, .bool false, .bool false, .bool false, .int .i64 0, .int .i64 0, .int .i64 0, .int .i64 0] 40) * (blk w1.heap.size _ * (treeH t C * (storeH s Q * R)))) (by ac_rfl)
  have hk := blk_cells h3
  have hq := blk_free h3
  have HE := Lib.hid (holds_setSdw h3 rfl sdw0)
  have HB2 := Lib.hid (below_setSdw hB1 (Nat.le_refl _) sdw0)
  clear h2 h3 hB1
  go_wp2
  exact ret_sdw (y := sdw0) (i := 8) (j := 9) rfl rfl rfl rfl HE.out.get ⟨rfl, HE.out.right.right, HB2.out⟩
end
end Go.Proofs.YtapkcgmjadpdiaaDoor

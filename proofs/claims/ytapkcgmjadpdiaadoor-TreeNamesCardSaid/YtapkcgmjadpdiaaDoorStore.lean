/- Segments' words in memory: what lies behind a *store.Store, and its functions. -/
import Derived.Test.YtapkcgmjadpdiaaDoorTree
import Derived.Test.YtapkcgmjadpdiaaDoorWLast
import Derived.OwnWalk
import Derived.Laws.MakeOwn
namespace Go.Proofs.YtapkcgmjadpdiaaDoor
set_option linter.unusedVariables false
set_option linter.unusedSimpArgs false
open Go.RowKit Go.Maps Go.Sp Go.Proofs.YtapkcgmjadpdiaaDoorW.PrintLast

structure Seg where
  v : Value
  ws : List Int
structure StoreC where
  quota : Int
  used : Int
  next : Int
  segs : List (Int × Seg)
def wordsV (l : List Int) : List Value := l.map (.int .u64)
def segH (p : Int × Seg) : HProp := own 158 1 p.2.v p.2.ws.length (wordsV p.2.ws)
def stCells (Q : StoreC) (ml : Nat) : Array Value := #[.int .i64 Q.quota, .int .i64 Q.used, .int .i64 Q.next, .map (some ml)]
def mpS (ml : Nat) (l : List (Int × Seg)) : HProp := mp Tryd.prog 3 ml (l.map fun p => (intV p.1, p.2.v))
def storeH (s : Nat) (Q : StoreC) : HProp := ex fun ml => blk s (.cells (stCells Q ml) 73 (0, 0)) * (mpS ml Q.segs * bigS segH Q.segs)
theorem holds_store {w : World} {s : Nat} {Q : StoreC} {R : HProp} : Holds w (storeH s Q * R) ↔ ∃ ml, Holds w (blk s (.cells (stCells Q ml) 73 (0, 0)) * (mpS ml Q.segs * (bigS segH Q.segs * R))) := by
  unfold storeH
  simp only [ex_star, holds_ex, star_assoc]
theorem zeroWords (w : World) : (zeroValue 74).run Tryd.prog w = .ok (.slice none 0 0) w := by kernel_rfl

section
variable {w : World} {s : Nat} {Q : StoreC} {R : HProp}

theorem StoreAt.c {ml : Nat} (h : Holds w (blk s (.cells (stCells Q ml) 73 (0, 0)) * R)) :
    w.cell? ⟨s, 0, none⟩ = some (.int .i64 Q.quota) ∧ w.cell? ⟨s, 1, none⟩ = some (.int .i64 Q.used) ∧ w.cell? ⟨s, 2, none⟩ = some (.int .i64 Q.next) ∧ w.cell? ⟨s, 3, none⟩ = some (.map (some ml)) := by
  simp [World.cell?, h.get, stCells]
theorem StoreAt.f {ml : Nat} (h : Holds w (blk s (.cells (stCells Q ml) 73 (0, 0)) * R)) (i : Nat) : w.frozen? ⟨s, i, none⟩ = false := by simp [World.frozen?, h.get]
theorem lookS {ml : Nat} {l : List (Int × Seg)} (h : Holds w (mpS ml l * R)) {u : Int} (hu : I64 u) (c : Bool) :
    (Instr.lookup 71 (.map (some ml)) (.int .i64 u) c).run Tryd.prog w = .ok (if c then .tuple #[match alGet l u with | some x => x.v | none => .slice none 0 0, .bool (alGet l u).isSome] else match alGet l u with | some x => x.v | none => .slice none 0 0) w := by
  cases hf : alGet l u with
  | none => exact run_look_out intLaw Tryd.underlying71 (zeroWords w) h (okInt hu) (by
      have := (mem_map_fst (l := l) (encK := intV) (encV := Seg.v) intV_inj).2 (al_none.1 hf); exact this) c
  | some b => exact run_look_in intLaw Tryd.underlying71 h (List.mem_map.2 ⟨_, al_mem hf, rfl⟩) c

def StoreC.get (Q : StoreC) (u : Int) : Value := match alGet Q.segs u with | some x => x.v | none => .slice none 0 0
def StoreC.err (Q : StoreC) (u : Int) : Int := if (alGet Q.segs u).isSome then 0 else 4
theorem sget_any (h : Holds w (storeH s Q * R)) {u : Int} (hu : I64 u) :
    Calls Tryd.prog 38 #[.pointer (some ⟨s, 0, none⟩), .int .i64 u] w fun e w' => e = .returned (.tuple #[Q.get u, .int .i64 (Q.err u)]) ∧ w = w' := by
  obtain ⟨ml, ho⟩ := holds_store.1 h
  obtain ⟨c0, c1, c2, c3⟩ := StoreAt.c ho
  have hl := lookS (ho.to (star_left_comm _ _ _)) hu true
  simp only [if_true] at hl
  cases hf : alGet Q.segs u with
  | none =>
    have e1 : Q.get u = .slice none 0 0 := by simp [StoreC.get, hf]
    have e2 : Q.err u = 4 := by simp [StoreC.err, hf]
    rw [e1, e2]
    simp only [hf, Option.isSome_none] at hl
    clear ho h hf e1 e2
    go_enter Tryd.func38, Tryd.ntmps38
    go_wp2
    go_ret2
    exact ⟨rfl, rfl⟩
  | some x =>
    have e1 : Q.get u = x.v := by simp [StoreC.get, hf]
    have e2 : Q.err u = 0 := by simp [StoreC.err, hf]
    rw [e1, e2]
    simp only [hf, Option.isSome_some] at hl
    clear ho h hf e1 e2
    generalize x.v = v at hl
    go_enter Tryd.func38, Tryd.ntmps38
    go_wp2
    go_ret2
    exact ⟨rfl, rfl⟩

theorem seg_front {u : Int} {x : Seg} (h : Holds w (bigS segH Q.segs * R)) (hx : alGet Q.segs u = some x) :
    ∃ n1 n2, Q.segs = n1 ++ (u, x) :: n2 ∧ (∀ y, alSet Q.segs u y = n1 ++ (u, y) :: n2) ∧ alDel Q.segs u = n1 ++ n2 ∧ Holds w (own 158 1 x.v x.ws.length (wordsV x.ws) * (bigS segH (n1 ++ n2) * R)) := by
  obtain ⟨n1, n2, h1, h2, h3, _⟩ := al_split hx
  rw [h1, bigS_mid, star_assoc] at h
  exact ⟨n1, n2, h1, h2, h3, h⟩
theorem seg_slice {u : Int} {x : Seg} (h : Holds w (storeH s Q * R)) (hx : alGet Q.segs u = some x) : ∃ a c, x.v = .slice a x.ws.length c := by
  obtain ⟨ml, ho⟩ := holds_store.1 h
  obtain ⟨n1, n2, _, _, _, hH⟩ := seg_front (ho.to (by ac_rfl : _ = bigS segH Q.segs * (blk s (.cells (stCells Q ml) 73 (0, 0)) * (mpS ml Q.segs * R)))) hx
  obtain ⟨a, c, hv, _⟩ := hH.own_slice
  exact ⟨a, c, hv⟩
def StoreC.len (Q : StoreC) (u : Int) : Nat := match alGet Q.segs u with | some x => x.ws.length | none => 0
theorem size_any (h : Holds w (storeH s Q * R)) {u : Int} (hu : I64 u) :
    Calls Tryd.prog 32 #[.pointer (some ⟨s, 0, none⟩), .int .i64 u] w fun e w' => e = .returned (.tuple #[.int .i64 (Q.len u), .int .i64 (Q.err u)]) ∧ w = w' := by
  have hv : ∃ a c, Q.get u = .slice a (Q.len u) c := by
    cases hf : alGet Q.segs u with
    | none => exact ⟨none, 0, by simp [StoreC.get, StoreC.len, hf]⟩
    | some x =>
      obtain ⟨a, c, hx⟩ := seg_slice h hf
      exact ⟨a, c, by simp [StoreC.get, StoreC.len, hf, hx]⟩
  obtain ⟨a, c, hv⟩ := hv
  have hg := sget_any h hu
  rw [hv] at hg
  have HG := Lib.hid hg
  clear hg hv h
  go_enter Tryd.func32, Tryd.ntmps32
  go_wp2_with fail
  refine HG.out.mono ?_
  rintro e w' ⟨rfl, rfl⟩
  go_wp2
  go_ret2
  exact ⟨rfl, rfl⟩
end
end Go.Proofs.YtapkcgmjadpdiaaDoor

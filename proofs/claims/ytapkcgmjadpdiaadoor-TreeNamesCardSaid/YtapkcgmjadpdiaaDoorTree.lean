/- The hierarchy in memory: what lies behind a *tree.Tree. -/
import Derived.Test.YtapkcgmjadpdiaaDoorKeys
namespace Go.Proofs.YtapkcgmjadpdiaaDoor
set_option linter.unusedVariables false
set_option linter.unusedSimpArgs false
open Go.RowKit Go.Maps Go.Sp

structure Nod where
  b : Brn
  home : Int
  many : Int
/-- What a tree is: names to blocks of nodes, how many names each directory has, segments' blocks, the last directory's number; the nodes by block. -/
structure TreeC where
  ents : List ((Int × ByteArray) × Nat)
  dirs : List (Int × Int)
  uids : List (Int × Nat)
  next : Int
  nodes : List (Nat × Nod)

def nodCells (x : Nod) (av : Value) : Array Value := #[.int .i64 x.b.kind, .int .i64 x.b.uid, .int .i64 x.b.dir, .string x.b.link, .bool x.b.obj, av, .int .i64 x.b.b.r1, .int .i64 x.b.b.r2, .int .i64 x.b.b.r3, .int .i64 x.b.b.gates, .int .i64 x.home, .int .i64 x.many]
def aclH (av : Value) (l : List Trm) : HProp := own 45 4 av l.length (terms l)
def nodH (p : Nat × Nod) : HProp := ex fun av => aclH av p.2.b.acl * blk p.1 (.cells (nodCells p.2 av) 82 (0, 0))
def rootCells (rl rd ru : Nat) (next : Int) : Array Value := #[.map (some rl), .map (some rd), .map (some ru), .int .i64 next]
def mpL (rl : Nat) (l : List ((Int × ByteArray) × Nat)) : HProp := mp Tryd.prog 92 rl (l.map fun p => (keyV p.1, ptrV p.2))
def mpD (rd : Nat) (l : List (Int × Int)) : HProp := mp Tryd.prog 3 rd (l.map fun p => (intV p.1, intV p.2))
def mpU (ru : Nat) (l : List (Int × Nat)) : HProp := mp Tryd.prog 3 ru (l.map fun p => (intV p.1, ptrV p.2))
def treeH (t : Nat) (C : TreeC) : HProp :=
  ex fun rl => ex fun rd => ex fun ru => blk t (.cells (rootCells rl rd ru C.next) 70 (0, 0)) * (mpL rl C.ents * (mpD rd C.dirs * (mpU ru C.uids * bigS nodH C.nodes)))

theorem holds_tree {w : World} {t : Nat} {C : TreeC} {R : HProp} : Holds w (treeH t C * R) ↔
    ∃ rl rd ru, Holds w (blk t (.cells (rootCells rl rd ru C.next) 70 (0, 0)) * (mpL rl C.ents * (mpD rd C.dirs * (mpU ru C.uids * (bigS nodH C.nodes * R))))) := by
  unfold treeH
  simp only [ex_star, holds_ex, star_assoc]

/-- A tree's parts, each at the front. -/
structure TreeAt (w : World) (t : Nat) (C : TreeC) (R : HProp) (rl rd ru : Nat) : Prop where
  root : Holds w (blk t (.cells (rootCells rl rd ru C.next) 70 (0, 0)) * (mpL rl C.ents * (mpD rd C.dirs * (mpU ru C.uids * (bigS nodH C.nodes * R)))))
theorem TreeAt.l {w t C R rl rd ru} (h : TreeAt w t C R rl rd ru) : Holds w (mpL rl C.ents * (blk t (.cells (rootCells rl rd ru C.next) 70 (0, 0)) * (mpD rd C.dirs * (mpU ru C.uids * (bigS nodH C.nodes * R))))) := h.root.to (by ac_rfl)
theorem TreeAt.d {w t C R rl rd ru} (h : TreeAt w t C R rl rd ru) : Holds w (mpD rd C.dirs * (blk t (.cells (rootCells rl rd ru C.next) 70 (0, 0)) * (mpL rl C.ents * (mpU ru C.uids * (bigS nodH C.nodes * R))))) := h.root.to (by ac_rfl)
theorem TreeAt.u {w t C R rl rd ru} (h : TreeAt w t C R rl rd ru) : Holds w (mpU ru C.uids * (blk t (.cells (rootCells rl rd ru C.next) 70 (0, 0)) * (mpL rl C.ents * (mpD rd C.dirs * (bigS nodH C.nodes * R))))) := h.root.to (by ac_rfl)
theorem TreeAt.n {w t C R rl rd ru} (h : TreeAt w t C R rl rd ru) : Holds w (bigS nodH C.nodes * (blk t (.cells (rootCells rl rd ru C.next) 70 (0, 0)) * (mpL rl C.ents * (mpD rd C.dirs * (mpU ru C.uids * R))))) := h.root.to (by ac_rfl)
theorem TreeAt.c0 {w t C R rl rd ru} (h : TreeAt w t C R rl rd ru) : w.cell? ⟨t, 0, none⟩ = some (.map (some rl)) := by simp [World.cell?, h.root.get, rootCells]
theorem TreeAt.c1 {w t C R rl rd ru} (h : TreeAt w t C R rl rd ru) : w.cell? ⟨t, 1, none⟩ = some (.map (some rd)) := by simp [World.cell?, h.root.get, rootCells]
theorem TreeAt.c2 {w t C R rl rd ru} (h : TreeAt w t C R rl rd ru) : w.cell? ⟨t, 2, none⟩ = some (.map (some ru)) := by simp [World.cell?, h.root.get, rootCells]
theorem TreeAt.c3 {w t C R rl rd ru} (h : TreeAt w t C R rl rd ru) : w.cell? ⟨t, 3, none⟩ = some (.int .i64 C.next) := by simp [World.cell?, h.root.get, rootCells]
theorem TreeAt.f {w t C R rl rd ru} (h : TreeAt w t C R rl rd ru) (i : Nat) : w.frozen? ⟨t, i, none⟩ = false := by simp [World.frozen?, h.root.get]
theorem TreeAt.shut {w t C R rl rd ru} (h : Holds w (mpL rl C.ents * (blk t (.cells (rootCells rl rd ru C.next) 70 (0, 0)) * (mpD rd C.dirs * (mpU ru C.uids * (bigS nodH C.nodes * R)))))) : Holds w (treeH t C * R) :=
  holds_tree.2 ⟨rl, rd, ru, h.to (by ac_rfl)⟩

def TreeC.find (C : TreeC) (d : Int) (n : ByteArray) : Option Nat := alGet C.ents (d, n)
def optP : Option Nat → Value
  | none => .pointer none
  | some b => ptrV b
theorem zeroPN (w : World) : (zeroValue 78).run Tryd.prog w = .ok (.pointer none) w := by kernel_rfl
theorem zeroInt (w : World) : (zeroValue 3).run Tryd.prog w = .ok (.int .i64 0) w := by kernel_rfl

theorem TreeAt.lookL {w t C R rl rd ru} (h : TreeAt w t C R rl rd ru) {d : Int} {n : ByteArray} (hd : I64 d) (hn : n.size ≤ maxLen) :
    (Instr.lookup 66 (.map (some rl)) (.agg #[.int .i64 d, .string n]) false).run Tryd.prog w = .ok (optP (C.find d n)) w := by
  have hl := h.l
  cases hf : alGet C.ents (d, n) with
  | none =>
    simp only [TreeC.find, hf, optP]
    exact run_look_out keyLaw Tryd.underlying66 (zeroPN w) hl (okKey hd hn) ((mem_map_fst keyV_inj).2 (al_none.1 hf)) false
  | some b =>
    simp only [TreeC.find, hf, optP]
    exact run_look_in keyLaw Tryd.underlying66 hl (List.mem_map.2 ⟨_, al_mem hf, rfl⟩) false
theorem TreeAt.lookD {w t C R rl rd ru} (h : TreeAt w t C R rl rd ru) {d : Int} (hd : I64 d) (c : Bool) :
    (Instr.lookup 67 (.map (some rd)) (.int .i64 d) c).run Tryd.prog w = .ok (if c then .tuple #[.int .i64 ((alGet C.dirs d).getD 0), .bool (alGet C.dirs d).isSome] else .int .i64 ((alGet C.dirs d).getD 0)) w := by
  have hl := h.d
  cases hf : alGet C.dirs d with
  | none => exact run_look_out intLaw Tryd.underlying67 (zeroInt w) hl (okInt hd) ((mem_map_fst (encK := intV) intV_inj).2 (al_none.1 hf)) c
  | some b => exact run_look_in intLaw Tryd.underlying67 hl (List.mem_map.2 ⟨_, al_mem hf, rfl⟩) c
theorem TreeAt.lookU {w t C R rl rd ru} (h : TreeAt w t C R rl rd ru) {d : Int} (hd : I64 d) :
    (Instr.lookup 68 (.map (some ru)) (.int .i64 d) false).run Tryd.prog w = .ok (optP (alGet C.uids d)) w := by
  have hl := h.u
  cases hf : alGet C.uids d with
  | none => exact run_look_out intLaw Tryd.underlying68 (zeroPN w) hl (okInt hd) ((mem_map_fst (encK := intV) intV_inj).2 (al_none.1 hf)) false
  | some b => exact run_look_in intLaw Tryd.underlying68 hl (List.mem_map.2 ⟨_, al_mem hf, rfl⟩) false

/-- A node's part of memory at the front. -/
theorem nod_front {w : World} {C : TreeC} {R : HProp} {nb : Nat} {x : Nod} (h : Holds w (bigS nodH C.nodes * R)) (hx : alGet C.nodes nb = some x) :
    ∃ n1 n2 av, C.nodes = n1 ++ (nb, x) :: n2 ∧ (∀ y, alSet C.nodes nb y = n1 ++ (nb, y) :: n2) ∧ Holds w (blk nb (.cells (nodCells x av) 82 (0, 0)) * (aclH av x.b.acl * (bigS nodH (n1 ++ n2) * R))) := by
  obtain ⟨n1, n2, h1, h2, _, _⟩ := al_split hx
  rw [h1, bigS_mid, star_assoc] at h
  unfold nodH at h
  rw [ex_star, holds_ex] at h
  obtain ⟨av, h⟩ := h
  exact ⟨n1, n2, av, h1, h2, h.to (by ac_rfl)⟩
theorem nod_back {w : World} {C : TreeC} {R : HProp} {nb : Nat} {y : Nod} {n1 n2 : List (Nat × Nod)} {av : Value} (h2 : alSet C.nodes nb y = n1 ++ (nb, y) :: n2)
    (h : Holds w (blk nb (.cells (nodCells y av) 82 (0, 0)) * (aclH av y.b.acl * (bigS nodH (n1 ++ n2) * R)))) : Holds w (bigS nodH (alSet C.nodes nb y) * R) := by
  rw [h2, bigS_mid, star_assoc]
  conv => rhs; rw [show nodH (nb, y) = ex fun av => aclH av y.b.acl * blk nb (.cells (nodCells y av) 82 (0, 0)) from rfl]
  rw [ex_star, holds_ex]
  exact ⟨av, h.to (by ac_rfl)⟩
end Go.Proofs.YtapkcgmjadpdiaaDoor

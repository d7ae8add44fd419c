/- The ground of these proofs: assertions on parts of memory, and what the world's operations do to them. -/
import Derived.WalkKit
import Derived.Below
import Derived.Deep.Draws
import Derived.MapKept
namespace Go.Sp
set_option linter.unusedVariables false
set_option linter.unusedSimpArgs false
open Go.RowKit

/-- What a run never turns: the outside, the tape, what was written. -/
abbrev Env := Os × (Nat → Question → Nat) × Array (Nat × ByteArray)
abbrev Hp := Nat → Option Obj
def HProp := Env → Hp → Prop

def envOf (w : World) : Env := (w.os, w.tape, w.output)
def Disj (h k : Hp) : Prop := ∀ b, h b = none ∨ k b = none
def join (h k : Hp) : Hp := fun b => match h b with | some o => some o | none => k b
def nil : Hp := fun _ => none
def Sub (h k : Hp) : Prop := ∀ b o, h b = some o → k b = some o

def star (P Q : HProp) : HProp := fun e h => ∃ h1 h2, Disj h1 h2 ∧ h = join h1 h2 ∧ P e h1 ∧ Q e h2
instance : Mul HProp := ⟨star⟩
def emp : HProp := fun _ h => h = nil
def pr (φ : Prop) : HProp := fun _ h => φ ∧ h = nil
def ex {α : Type} (P : α → HProp) : HProp := fun e h => ∃ a, P a e h
def blk (b : Nat) (o : Obj) : HProp := fun _ h => h = fun k => if k = b then some o else none

/-- A part of the world's memory is as P says. -/
def Holds (w : World) (P : HProp) : Prop := ∃ h, P (envOf w) h ∧ ∀ b o, h b = some o → w.heap[b]? = some o
def Imp (P Q : HProp) : Prop := ∀ e h, P e h → ∃ h', Sub h' h ∧ Q e h'

theorem Disj.symm {h k : Hp} (d : Disj h k) : Disj k h := fun b => (d b).symm
theorem join_comm {h k : Hp} (d : Disj h k) : join h k = join k h := by
  funext b; simp only [join]
  rcases d b with e | e <;> rw [e] <;> cases h b <;> cases k b <;> rfl
theorem join_assoc (h k l : Hp) : join (join h k) l = join h (join k l) := by
  funext b; simp only [join]; cases h b <;> rfl
theorem join_nil (h : Hp) : join h nil = h := by funext b; simp only [join, nil]; cases h b <;> rfl
theorem nil_join (h : Hp) : join nil h = h := rfl
theorem disj_nil (h : Hp) : Disj h nil := fun _ => .inr rfl
theorem nil_disj (h : Hp) : Disj nil h := fun _ => .inl rfl
theorem join_none {h k : Hp} {b : Nat} : join h k b = none ↔ h b = none ∧ k b = none := by
  simp only [join]; cases h b <;> simp
theorem disj_join {h k l : Hp} : Disj (join h k) l ↔ Disj h l ∧ Disj k l := by
  constructor
  · intro d
    refine ⟨fun b => ?_, fun b => ?_⟩ <;> rcases d b with e | e
    · exact .inl (join_none.1 e).1
    · exact .inr e
    · exact .inl (join_none.1 e).2
    · exact .inr e
  · rintro ⟨d1, d2⟩ b
    rcases d1 b with e | e
    · rcases d2 b with e2 | e2
      · exact .inl (join_none.2 ⟨e, e2⟩)
      · exact .inr e2
    · exact .inr e
theorem join_disj {h k l : Hp} : Disj l (join h k) ↔ Disj l h ∧ Disj l k :=
  ⟨fun d => let ⟨a, b⟩ := disj_join.1 d.symm; ⟨a.symm, b.symm⟩, fun ⟨a, b⟩ => (disj_join.2 ⟨a.symm, b.symm⟩).symm⟩

theorem star_comm (P Q : HProp) : P * Q = Q * P := by
  have key : ∀ P Q : HProp, ∀ e h, (P * Q) e h → (Q * P) e h := by
    rintro P Q e h ⟨h1, h2, d, rfl, p, q⟩; exact ⟨h2, h1, d.symm, join_comm d, q, p⟩
  funext e h; exact propext ⟨key P Q e h, key Q P e h⟩
theorem star_assoc (P Q R : HProp) : (P * Q) * R = P * (Q * R) := by
  funext e h; refine propext ⟨?_, ?_⟩
  · rintro ⟨h12, h3, d, rfl, ⟨h1, h2, d', rfl, p, q⟩, r⟩
    obtain ⟨da, db⟩ := disj_join.1 d
    exact ⟨h1, join h2 h3, join_disj.2 ⟨d', da⟩, join_assoc _ _ _, p, h2, h3, db, rfl, q, r⟩
  · rintro ⟨h1, h23, d, rfl, p, h2, h3, d', rfl, q, r⟩
    obtain ⟨da, db⟩ := join_disj.1 d
    exact ⟨join h1 h2, h3, disj_join.2 ⟨db, d'⟩, (join_assoc _ _ _).symm, ⟨h1, h2, da, rfl, p, q⟩, r⟩
instance : Std.Associative (α := HProp) (· * ·) := ⟨star_assoc⟩
instance : Std.Commutative (α := HProp) (· * ·) := ⟨star_comm⟩
theorem star_left_comm (P Q R : HProp) : P * (Q * R) = Q * (P * R) := by rw [← star_assoc, star_comm P Q, star_assoc]
theorem emp_star (P : HProp) : emp * P = P := by
  funext e h; refine propext ⟨?_, fun p => ⟨nil, h, nil_disj h, (nil_join h).symm, rfl, p⟩⟩
  rintro ⟨_, h2, _, rfl, rfl, p⟩; rw [nil_join]; exact p
theorem star_emp (P : HProp) : P * emp = P := by rw [star_comm, emp_star]
theorem pr_true : pr True = emp := by funext e h; simp [pr, emp]
theorem pr_star {φ : Prop} {P : HProp} {e : Env} {h : Hp} : (pr φ * P) e h ↔ φ ∧ P e h := by
  constructor
  · rintro ⟨_, h2, _, rfl, ⟨f, rfl⟩, p⟩; exact ⟨f, by rw [nil_join]; exact p⟩
  · rintro ⟨f, p⟩; exact ⟨nil, h, nil_disj h, (nil_join h).symm, ⟨f, rfl⟩, p⟩
theorem ex_star {α : Type} (P : α → HProp) (Q : HProp) : ex P * Q = ex fun a => P a * Q := by
  funext e h; refine propext ⟨?_, ?_⟩
  · rintro ⟨h1, h2, d, rfl, ⟨a, p⟩, q⟩; exact ⟨a, h1, h2, d, rfl, p, q⟩
  · rintro ⟨a, h1, h2, d, rfl, p, q⟩; exact ⟨h1, h2, d, rfl, ⟨a, p⟩, q⟩
theorem star_ex {α : Type} (P : α → HProp) (Q : HProp) : Q * ex P = ex fun a => Q * P a := by
  rw [star_comm, ex_star]; congr 1; funext a; rw [star_comm]
theorem pr_and {φ ψ : Prop} : pr (φ ∧ ψ) = pr φ * pr ψ := by
  funext e h; refine propext ⟨?_, ?_⟩
  · rintro ⟨⟨a, b⟩, rfl⟩; exact pr_star.2 ⟨a, b, rfl⟩
  · intro k; obtain ⟨a, b, rfl⟩ := pr_star.1 k; exact ⟨⟨a, b⟩, rfl⟩

section holds
variable {w : World} {P Q R : HProp}
theorem Holds.emp (w : World) : Holds w emp := ⟨nil, rfl, fun _ _ h => by cases h⟩
theorem holds_pr {φ : Prop} : Holds w (pr φ * P) ↔ φ ∧ Holds w P := by
  constructor
  · rintro ⟨h, p, s⟩; obtain ⟨f, p⟩ := pr_star.1 p; exact ⟨f, h, p, s⟩
  · rintro ⟨f, h, p, s⟩; exact ⟨h, pr_star.2 ⟨f, p⟩, s⟩
theorem holds_ex {α : Type} {P : α → HProp} : Holds w (ex P) ↔ ∃ a, Holds w (P a) :=
  ⟨fun ⟨h, ⟨a, p⟩, s⟩ => ⟨a, h, p, s⟩, fun ⟨a, h, p, s⟩ => ⟨h, ⟨a, p⟩, s⟩⟩
theorem holds_ex_star {α : Type} {P : α → HProp} : Holds w (ex P * R) ↔ ∃ a, Holds w (P a * R) := by rw [ex_star, holds_ex]
theorem Holds.to (h : Holds w P) (e : P = Q) : Holds w Q := e ▸ h
theorem Holds.imp (h : Holds w P) (i : Imp P Q) : Holds w Q := by
  obtain ⟨k, p, s⟩ := h; obtain ⟨k', t, q⟩ := i _ _ p; exact ⟨k', q, fun b o e => s b o (t b o e)⟩
theorem Imp.refl (P : HProp) : Imp P P := fun _ h p => ⟨h, fun _ _ e => e, p⟩
theorem Imp.trans (i : Imp P Q) (j : Imp Q R) : Imp P R := fun e h p => by
  obtain ⟨k, s, q⟩ := i e h p; obtain ⟨l, t, r⟩ := j e k q; exact ⟨l, fun b o x => s b o (t b o x), r⟩
theorem Imp.star {P' Q' : HProp} (i : Imp P P') (j : Imp Q Q') : Imp (P * Q) (P' * Q') := by
  rintro e h ⟨h1, h2, d, rfl, p, q⟩
  obtain ⟨k1, s1, p'⟩ := i e h1 p; obtain ⟨k2, s2, q'⟩ := j e h2 q
  have d' : Disj k1 k2 := fun b => by
    cases x : k1 b with
    | none => exact .inl rfl
    | some o =>
      cases y : k2 b with
      | none => exact .inr rfl
      | some o' => rcases d b with z | z
                   · rw [s1 b o x] at z; cases z
                   · rw [s2 b o' y] at z; cases z
  refine ⟨join k1 k2, ?_, k1, k2, d', rfl, p', q'⟩
  intro b o x
  simp only [join] at x ⊢
  cases y : k1 b with
  | some o' => rw [y] at x; rw [s1 b o' y]; exact x
  | none =>
    rw [y] at x
    have hk := s2 b o x
    rcases d b with z | z
    · rw [z]; exact hk
    · rw [hk] at z; cases z
theorem Imp.drop_left (P Q : HProp) : Imp (P * Q) Q := by
  rintro e h ⟨h1, h2, d, rfl, p, q⟩
  refine ⟨h2, fun b o x => ?_, q⟩
  simp only [join]
  rcases d b with z | z
  · rw [z]; exact x
  · rw [x] at z; cases z
theorem Imp.drop_right (P Q : HProp) : Imp (P * Q) P := by rw [star_comm]; exact Imp.drop_left Q P
theorem Holds.left (h : Holds w (P * Q)) : Holds w P := h.imp (Imp.drop_right P Q)
theorem Holds.right (h : Holds w (P * Q)) : Holds w Q := h.imp (Imp.drop_left P Q)
theorem Holds.imp_l (h : Holds w (P * R)) (i : Imp P Q) : Holds w (Q * R) := h.imp (i.star (Imp.refl R))

theorem Holds.get {b : Nat} {o : Obj} (h : Holds w (blk b o * R)) : w.heap[b]? = some o := by
  obtain ⟨k, p, s⟩ := h.left; cases p; exact s b o (by simp)
theorem Holds.ne {b b' : Nat} {o o' : Obj} (h : Holds w (blk b o * (blk b' o' * R))) : b ≠ b' := by
  rintro rfl
  obtain ⟨k, ⟨h1, h2, d, rfl, p, ⟨h3, h4, d', rfl, q, r⟩⟩, s⟩ := h
  cases p; cases q
  rcases d b with z | z
  · simp at z
  · simp [join] at z
theorem Holds.lt {b : Nat} {o : Obj} (h : Holds w (blk b o * R)) : b < w.heap.size := by
  have := h.get; rw [Array.getElem?_eq_some_iff] at this; exact this.1

/-- A world that has the same outside and, below the old end, the same memory. -/
theorem Holds.below {w' : World} (h : Holds w P) (hb : Below w.heap.size w w') : Holds w' P := by
  obtain ⟨k, p, s⟩ := h
  have he : envOf w' = envOf w := by simp only [envOf, hb.os, hb.tape, hb.output]
  refine ⟨k, he ▸ p, fun b o x => ?_⟩
  have := s b o x
  have hlt : b < w.heap.size := by rw [Array.getElem?_eq_some_iff] at this; exact this.1
  rw [hb.block b hlt]; exact this
theorem below_drewN {B : Nat} {a w : World} (h : Below B a w) (n : Nat) : Below B a (w.drewN n) := ⟨h.os, h.tape, h.output, h.size, h.block⟩
theorem Holds.drew (h : Holds w P) : Holds w.drew P := h
theorem Holds.drewN (h : Holds w P) (n : Nat) : Holds (w.drewN n) P := h
theorem drewN_drewN (w : World) (n m : Nat) : (w.drewN n).drewN m = w.drewN (n + m) := by simp [World.drewN, Nat.add_assoc]
theorem Holds.undrewN {n : Nat} (h : Holds (w.drewN n) P) : Holds w P := h

theorem Holds.alloc (h : Holds w P) (o : Obj) : Holds (w.alloc o) (blk w.heap.size o * P) := by
  obtain ⟨k, p, s⟩ := h
  have hlt : ∀ b o', k b = some o' → b < w.heap.size := fun b o' x => by
    have := s b o' x; rw [Array.getElem?_eq_some_iff] at this; exact this.1
  refine ⟨join (fun j => if j = w.heap.size then some o else none) k, ⟨_, k, ?_, rfl, rfl, p⟩, ?_⟩
  · intro b
    by_cases e : b = w.heap.size
    · refine .inr ?_
      cases x : k b with
      | none => rfl
      | some o' => have := hlt b o' x; omega
    · exact .inl (by simp [e])
  · intro b o' x
    simp only [join] at x
    by_cases e : b = w.heap.size
    · subst e; simp at x; subst x; exact Array.getElem?_push_size
    · simp [e] at x
      have := hlt b o' x
      simp only [World.alloc]
      rw [Array.getElem?_push_lt this]
      rw [← s b o' x, Array.getElem?_eq_getElem this]

/-- One block is turned, the world being else as it was. -/
theorem Holds.turn {b : Nat} {o o' : Obj} {w' : World} (h : Holds w (blk b o * P)) (hos : w'.os = w.os) (ht : w'.tape = w.tape) (hout : w'.output = w.output)
    (hb : w'.heap[b]? = some o') (hr : ∀ k, k ≠ b → k < w.heap.size → w'.heap[k]? = w.heap[k]?) : Holds w' (blk b o' * P) := by
  obtain ⟨k, ⟨h1, h2, d, rfl, p, q⟩, s⟩ := h
  cases p
  have he : envOf w' = envOf w := by simp only [envOf, hos, ht, hout]
  refine ⟨join (fun j => if j = b then some o' else none) h2, ⟨_, h2, ?_, rfl, rfl, he ▸ q⟩, ?_⟩
  · intro j
    rcases d j with z | z
    · by_cases e : j = b
      · simp [e] at z
      · exact .inl (by simp [e])
    · exact .inr z
  · intro j o'' x
    simp only [join] at x
    by_cases e : j = b
    · subst e; simp at x; subst x; exact hb
    · simp [e] at x
      have := s j o'' (by simp [join, e, x])
      have hlt : j < w.heap.size := by rw [Array.getElem?_eq_some_iff] at this; exact this.1
      rw [hr j e hlt]; exact this
theorem Holds.setCell {b i : Nat} {cs : Array Value} {T : TypeId} {fz : Nat × Nat} (h : Holds w (blk b (.cells cs T fz) * P)) (v : Value) :
    Holds (w.setCell ⟨b, i, none⟩ v) (blk b (.cells (cs.setIfInBounds i v) T fz) * P) := by
  have hg := h.get
  refine h.turn rfl rfl rfl ?_ ?_
  · simp only [World.setCell, Array.getElem?_modify, hg, if_true, Option.map_some]; rfl
  · intro k hk _
    simp only [World.setCell]
    rw [Array.getElem?_modify]; rw [if_neg (Ne.symm hk)]
theorem Holds.setObj {b : Nat} {o : Obj} (h : Holds w (blk b o * P)) (o' : Obj) : Holds { w with heap := w.heap.setIfInBounds b o' } (blk b o' * P) := by
  have hlt := h.lt
  refine h.turn rfl rfl rfl ?_ ?_
  · simp [hlt]
  · intro k hk _
    rw [Array.getElem?_setIfInBounds]; rw [if_neg (Ne.symm hk)]
end holds

/-- A row of cells of the call's own, whatever it holds. -/
def box (b : Nat) : HProp := ex fun cs => ex fun T => ex fun fz => blk b (.cells cs T fz)
section boxes
variable {w : World} {P Q : HProp} {b : Nat}
theorem Holds.boxed {cs : Array Value} {T : TypeId} {fz : Nat × Nat} (h : Holds w (blk b (.cells cs T fz) * P)) : Holds w (box b * P) := by
  unfold box; simp only [ex_star, holds_ex]; exact ⟨cs, T, fz, h⟩
theorem Holds.boxed2 {cs : Array Value} {T : TypeId} {fz : Nat × Nat} (h : Holds w (Q * (blk b (.cells cs T fz) * P))) : Holds w (Q * (box b * P)) := by
  rw [star_left_comm] at h ⊢; exact h.boxed
theorem Holds.setBox (i : Nat) (v : Value) (h : Holds w (box b * P)) : Holds (w.setCell ⟨b, i, none⟩ v) (box b * P) := by
  unfold box at h ⊢; simp only [ex_star, holds_ex] at h ⊢
  obtain ⟨cs, T, fz, h⟩ := h
  exact ⟨_, T, fz, h.setCell v⟩
theorem Holds.setBox2 (i : Nat) (v : Value) (h : Holds w (Q * (box b * P))) : Holds (w.setCell ⟨b, i, none⟩ v) (Q * (box b * P)) := by
  rw [star_left_comm] at h ⊢; exact h.setBox i v
theorem Holds.setBox3 {Q' : HProp} (i : Nat) (v : Value) (h : Holds w (Q' * (Q * (box b * P)))) : Holds (w.setCell ⟨b, i, none⟩ v) (Q' * (Q * (box b * P))) := by
  have e : Q' * (Q * (box b * P)) = box b * (Q' * (Q * P)) := by ac_rfl
  rw [e] at h ⊢; exact h.setBox i v
end boxes

/-- The memory that the call found, as it was. -/
def old (w0 : World) : HProp := fun e h => e = envOf w0 ∧ h = fun b => w0.heap[b]?
theorem holds_old (w0 : World) : Holds w0 (old w0) := ⟨_, ⟨rfl, rfl⟩, fun _ _ h => h⟩
theorem Holds.of_old {w0 w : World} {R : HProp} (h : Holds w (old w0 * R)) : Below w0.heap.size w0 w := by
  obtain ⟨k, ⟨he, rfl⟩, s⟩ := h.left
  simp only [envOf, Prod.mk.injEq] at he
  obtain ⟨h1, h2, h3⟩ := he
  refine ⟨h1, h2, h3, ?_, fun k hk => ?_⟩
  · by_cases z : w0.heap.size = 0
    · omega
    · have := s (w0.heap.size - 1) w0.heap[w0.heap.size - 1] (Array.getElem?_eq_getElem (by omega))
      rw [Array.getElem?_eq_some_iff] at this
      obtain ⟨hl, _⟩ := this; omega
  · rw [s k w0.heap[k] (Array.getElem?_eq_getElem hk), Array.getElem?_eq_getElem hk]
theorem Holds.ge_old {w0 w : World} {b : Nat} {o : Obj} {R : HProp} (h : Holds w (blk b o * (old w0 * R))) : w0.heap.size ≤ b := by
  refine Nat.le_of_not_lt fun hb => ?_
  obtain ⟨k, ⟨h1, h2, d, rfl, p, ⟨h3, h4, d', rfl, ⟨_, rfl⟩, r⟩⟩, s⟩ := h
  cases p
  rcases d b with z | z
  · simp at z
  · simp [join, Array.getElem?_eq_getElem hb] at z

end Go.Sp

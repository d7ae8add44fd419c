/- The plain data that the program's objects stand for. No program in sight. -/
import Derived.Test.YtapkcgmjadpdiaaDoorSlices
import Derived.Lib.Bytealg
namespace Go.Sp
set_option linter.unusedVariables false
set_option linter.unusedSimpArgs false

structure Flg where
  r : Bool
  w : Bool
  e : Bool
structure Brk where
  r1 : Int
  r2 : Int
  r3 : Int
  gates : Int
structure Trm where
  user : ByteArray
  f : Flg
structure Brn where
  kind : Int
  uid : Int
  dir : Int
  link : ByteArray
  obj : Bool
  acl : List Trm
  b : Brk

def Flg.agg (f : Flg) : Value := .agg #[.bool f.r, .bool f.w, .bool f.e]
def Brk.agg (b : Brk) : Value := .agg #[.int .i64 b.r1, .int .i64 b.r2, .int .i64 b.r3, .int .i64 b.gates]
def Trm.cells (t : Trm) : List Value := [.string t.user, .bool t.f.r, .bool t.f.w, .bool t.f.e]
def Trm.agg (t : Trm) : Value := .agg #[.string t.user, .bool t.f.r, .bool t.f.w, .bool t.f.e]
def terms (l : List Trm) : List Value := l.flatMap Trm.cells
/-- A branch as a value, its access list being the slice v. -/
def Brn.agg (b : Brn) (v : Value) : Value := .agg #[.int .i64 b.kind, .int .i64 b.uid, .int .i64 b.dir, .string b.link, .bool b.obj, v, .int .i64 b.b.r1, .int .i64 b.b.r2, .int .i64 b.b.r3, .int .i64 b.b.gates]

theorem flatMap_get {α : Type} (f : α → List Value) (k : Nat) (hk : ∀ a, (f a).length = k) : ∀ (l : List α) (j i : Nat) (a : α), l[j]? = some a → i < k → (l.flatMap f)[j * k + i]? = (f a)[i]?
  | [], j, i, a, h, _ => by simp at h
  | x :: l, 0, i, a, h, hi => by
    simp at h; subst h
    rw [List.flatMap_cons, Nat.zero_mul, Nat.zero_add, List.getElem?_append_left (by rw [hk]; exact hi)]
  | x :: l, j + 1, i, a, h, hi => by
    rw [List.flatMap_cons, List.getElem?_append_right (by rw [hk, Nat.succ_mul]; omega), hk, show (j + 1) * k + i - k = j * k + i from by rw [Nat.succ_mul]; omega]
    exact flatMap_get f k hk l j i a (by simpa using h) hi
theorem flatMap_len {α : Type} (f : α → List Value) (k : Nat) (hk : ∀ a, (f a).length = k) : ∀ (l : List α), (l.flatMap f).length = l.length * k
  | [] => by simp
  | x :: l => by rw [List.flatMap_cons, List.length_append, hk, flatMap_len f k hk l, List.length_cons, Nat.succ_mul]; omega
theorem terms_len (l : List Trm) : (terms l).length = l.length * 4 := flatMap_len _ 4 (fun _ => rfl) l

/-- The four cells of an access list's term number k. -/
theorem term_cells {w : World} {b o k : Nat} {l : List Trm} {t : Trm} (hc : ∀ j u, (terms l)[j]? = some u → w.cell? ⟨b, o + j, none⟩ = some u) (ht : l[k]? = some t) :
    w.cell? ⟨b, o + k * 4, none⟩ = some (.string t.user) ∧ w.cell? ⟨b, o + k * 4 + 1, none⟩ = some (.bool t.f.r) ∧ w.cell? ⟨b, o + k * 4 + 2, none⟩ = some (.bool t.f.w) ∧ w.cell? ⟨b, o + k * 4 + 3, none⟩ = some (.bool t.f.e) := by
  have h := fun i (hi : i < 4) => flatMap_get Trm.cells 4 (fun _ => rfl) l k i t ht hi
  exact ⟨hc (k * 4 + 0) _ (h 0 (by omega)), by rw [Nat.add_assoc]; exact hc _ _ (h 1 (by omega)), by rw [Nat.add_assoc]; exact hc _ _ (h 2 (by omega)), by rw [Nat.add_assoc]; exact hc _ _ (h 3 (by omega))⟩

/-- What of a name's bytes may stand in it. -/
def okC (c : UInt8) : Bool := decide (33 ≤ c.toNat) && decide (c.toNat ≤ 126) && decide (c.toNat ≠ 62)
def signsB (s : ByteArray) (most : Nat) : Bool := decide (1 ≤ s.size) && decide (s.size ≤ most) && s.data.toList.all okC
def star1 : ByteArray := { data := #[42] }
def userB (s : ByteArray) : Bool := (s.toList == [42]) || signsB s 16
def cmpB (a b : ByteArray) : Int := Lib.compareBytes a.data.toList b.data.toList
/-- Is the access list in order, and fine? -/
def ascB : List Trm → Bool
  | [] => true
  | [t] => userB t.user
  | t :: u :: l => userB t.user && decide (cmpB t.user u.user < 0) && ascB (u :: l)
def listB (l : List Trm) : Bool := ascB l && decide (l.length ≤ 16)
def brkB (b : Brk) : Bool := decide (0 ≤ b.r1) && decide (b.r1 ≤ b.r2) && decide (b.r2 ≤ b.r3) && decide (b.r3 ≤ 7) && decide (0 ≤ b.gates) && decide (b.gates ≤ 1024)

/-- Up to number k: all that stands there may, and each is behind the one ahead of it. -/
def okTo (l : List Trm) (k : Nat) : Prop := ∀ j t, j < k → l[j]? = some t → userB t.user = true ∧ ∀ u, 0 < j → l[j - 1]? = some u → cmpB u.user t.user < 0
theorem ascB_iff : ∀ l : List Trm, ascB l = true ↔ okTo l l.length
  | [] => by simp [ascB, okTo]
  | [t] => by
    constructor
    · intro h j t' hj ht
      have : j = 0 := by simp at hj; omega
      subst this; simp at ht; subst ht
      exact ⟨h, fun u hu => by omega⟩
    · intro h; exact (h 0 t (by simp) (by simp)).1
  | t :: u :: l => by
    have ih := ascB_iff (u :: l)
    simp only [ascB, Bool.and_eq_true, decide_eq_true_eq, ih]
    constructor
    · rintro ⟨⟨h1, h2⟩, h3⟩ j t' hj ht
      match j with
      | 0 => simp at ht; subst ht; exact ⟨h1, fun u hu => by omega⟩
      | j + 1 =>
        simp only [List.getElem?_cons_succ] at ht
        obtain ⟨ha, hb⟩ := h3 j t' (by simpa using hj) ht
        refine ⟨ha, fun v hv hu => ?_⟩
        match j with
        | 0 => simp at hu ht; subst hu; subst ht; exact h2
        | j + 1 => simp only [Nat.add_sub_cancel, List.getElem?_cons_succ] at hu; exact hb v (by omega) (by simpa using hu)
    · intro h
      refine ⟨⟨(h 0 t (by simp) (by simp)).1, (h 1 u (by simp) (by simp)).2 t (by omega) (by simp)⟩, fun j t' hj ht => ?_⟩
      obtain ⟨ha, hb⟩ := h (j + 1) t' (by simpa using hj) (by simpa using ht)
      refine ⟨ha, fun v hv hu => hb v (by omega) ?_⟩
      rw [Nat.add_sub_cancel]
      obtain ⟨i, rfl⟩ : ∃ i, j = i + 1 := ⟨j - 1, by omega⟩
      rw [List.getElem?_cons_succ]; simpa using hu

end Go.Sp

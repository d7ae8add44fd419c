/- Lists of pairs that stand for maps; bytes that can be told apart. -/
import Derived.Test.YtapkcgmjadpdiaaDoorMaps
import Derived.Test.YtapkcgmjadpdiaaDoorData
namespace Go.Sp
set_option linter.unusedVariables false
set_option linter.unusedSimpArgs false

instance bytesDec : DecidableEq ByteArray := fun a b => if h : a.data = b.data then .isTrue (by cases a; cases b; simp_all) else .isFalse (fun e => h (by rw [e]))

section
variable {κ ν : Type} [DecidableEq κ]
def alGet : List (κ × ν) → κ → Option ν
  | [], _ => none
  | (k', v) :: l, k => if k' = k then some v else alGet l k
def alSet : List (κ × ν) → κ → ν → List (κ × ν)
  | [], _, _ => []
  | (k', v') :: l, k, v => if k' = k then (k', v) :: l else (k', v') :: alSet l k v
def alDel : List (κ × ν) → κ → List (κ × ν)
  | [], _ => []
  | (k', v) :: l, k => if k' = k then l else (k', v) :: alDel l k

theorem al_split : ∀ {l : List (κ × ν)} {k : κ} {v : ν}, alGet l k = some v → ∃ a b, l = a ++ (k, v) :: b ∧ (∀ v', alSet l k v' = a ++ (k, v') :: b) ∧ alDel l k = a ++ b ∧ k ∉ a.map (·.1)
  | [], _, _, h => by simp [alGet] at h
  | (k', v') :: l, k, v, h => by
    by_cases e : k' = k
    · subst e; simp [alGet] at h; subst h
      exact ⟨[], l, rfl, fun v' => by simp [alSet], by simp [alDel], by simp⟩
    · simp [alGet, e] at h
      obtain ⟨a, b, h1, h2, h3, h4⟩ := al_split h
      exact ⟨(k', v') :: a, b, by rw [h1]; rfl, fun v'' => by simp [alSet, e, h2], by simp [alDel, e, h3], by simpa using ⟨fun x => e x.symm, by simpa using h4⟩⟩
theorem al_none {l : List (κ × ν)} {k : κ} : alGet l k = none ↔ k ∉ l.map (·.1) := by
  induction l with
  | nil => simp [alGet]
  | cons p l ih =>
    obtain ⟨k', v⟩ := p
    by_cases e : k' = k
    · simp [alGet, e]
    · simp only [alGet, if_neg e, ih, List.map_cons, List.mem_cons, not_or]
      exact ⟨fun h => ⟨fun x => e x.symm, h⟩, fun h => h.2⟩
theorem al_mem {l : List (κ × ν)} {k : κ} {v : ν} (h : alGet l k = some v) : (k, v) ∈ l := by
  obtain ⟨a, b, rfl, _⟩ := al_split h; simp
theorem al_append {l : List (κ × ν)} {k k' : κ} {v : ν} (h : alGet l k' = none) : alGet (l ++ [(k', v)]) k = if k' = k then some v else alGet l k := by
  induction l with
  | nil => simp [alGet]
  | cons p l ih =>
    obtain ⟨k2, v2⟩ := p
    have h2 : ¬ k2 = k' := by intro e; simp [alGet, e] at h
    have h3 : alGet l k' = none := by simpa [alGet, h2] using h
    simp only [List.cons_append, alGet, ih h3]
    by_cases e : k2 = k
    · rw [if_pos e]
      by_cases e' : k' = k
      · exact absurd (e.trans e'.symm) h2
      · rw [if_neg e', if_pos e]
    · rw [if_neg e, if_neg e]
theorem al_set {l : List (κ × ν)} {k k' : κ} {v : ν} : alGet (alSet l k' v) k = if k' = k then (alGet l k).map (fun _ => v) else alGet l k := by
  induction l with
  | nil => simp [alGet, alSet]
  | cons p l ih =>
    obtain ⟨k2, v2⟩ := p
    by_cases e : k2 = k'
    · subst e
      by_cases e' : k2 = k
      · simp [alGet, alSet, e']
      · simp [alGet, alSet, e']
    · simp only [alSet, if_neg e, alGet, ih]
      by_cases e' : k2 = k
      · simp only [if_pos e']
        have : ¬ k' = k := fun x => e (e'.trans x.symm)
        rw [if_neg this]
      · simp only [if_neg e']
theorem al_set_keys {l : List (κ × ν)} {k : κ} {v : ν} : (alSet l k v).map (·.1) = l.map (·.1) := by
  induction l with
  | nil => rfl
  | cons p l ih =>
    obtain ⟨k2, v2⟩ := p
    by_cases e : k2 = k
    · simp [alSet, e]
    · simp [alSet, e, ih]
theorem al_del {l : List (κ × ν)} (hn : (l.map (·.1)).Nodup) {k k' : κ} : alGet (alDel l k') k = if k' = k then none else alGet l k := by
  induction l with
  | nil => simp [alGet, alDel]
  | cons p l ih =>
    obtain ⟨k2, v2⟩ := p
    simp only [List.map_cons, List.nodup_cons] at hn
    by_cases e : k2 = k'
    · subst e
      simp only [alDel, if_pos, alGet]
      by_cases e' : k2 = k
      · subst e'; rw [if_pos rfl]; exact al_none.2 hn.1
      · rw [if_neg e', if_neg e']
    · simp only [alDel, if_neg e, alGet, ih hn.2]
      by_cases e' : k2 = k
      · have : ¬ k' = k := fun x => e (e'.trans x.symm)
        rw [if_pos e', if_neg this, if_pos e']
      · rw [if_neg e', if_neg e']
theorem al_of_mem {l : List (κ × ν)} (hn : (l.map (·.1)).Nodup) {k : κ} {v : ν} (h : (k, v) ∈ l) : alGet l k = some v := by
  induction l with
  | nil => cases h
  | cons p l ih =>
    obtain ⟨k2, v2⟩ := p
    simp only [List.map_cons, List.nodup_cons] at hn
    rcases List.mem_cons.1 h with e | e
    · cases e; simp [alGet]
    · have : ¬ k2 = k := fun x => hn.1 (x ▸ List.mem_map.2 ⟨(k, v), e, rfl⟩)
      simp [alGet, this, ih hn.2 e]
end

/-- Many things apart from each other. -/
def bigS {α : Type} (f : α → HProp) : List α → HProp
  | [] => emp
  | a :: l => f a * bigS f l
theorem bigS_append {α : Type} (f : α → HProp) : ∀ a b : List α, bigS f (a ++ b) = bigS f a * bigS f b
  | [], b => (emp_star _).symm
  | x :: a, b => by rw [List.cons_append, bigS, bigS, bigS_append f a b, star_assoc]
theorem bigS_mid {α : Type} (f : α → HProp) (a : List α) (x : α) (b : List α) : bigS f (a ++ x :: b) = f x * bigS f (a ++ b) := by
  rw [bigS_append, bigS_append, bigS, star_left_comm]
theorem bigS_snoc {α : Type} (f : α → HProp) (a : List α) (x : α) : bigS f (a ++ [x]) = f x * bigS f a := by
  rw [bigS_mid, List.append_nil]

theorem mem_map_fst {κ ν : Type} {l : List (κ × ν)} {encK : κ → Value} {encV : ν → Value} (hi : ∀ a b, encK a = encK b → a = b) {k : κ} :
    encK k ∉ ((l.map fun p => (encK p.1, encV p.2)).map (·.1)) ↔ k ∉ l.map (·.1) := by
  rw [List.map_map]
  constructor
  · intro h hm
    obtain ⟨p, hp, rfl⟩ := List.mem_map.1 hm
    exact h (List.mem_map.2 ⟨p, hp, rfl⟩)
  · intro h hm
    obtain ⟨p, hp, e⟩ := List.mem_map.1 hm
    exact h (List.mem_map.2 ⟨p, hp, hi _ _ e⟩)
end Go.Sp

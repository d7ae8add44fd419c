/- A node's names in a directory, taken away one after another: plain. -/
import Derived.Test.YtapkcgmjadpdiaaDoorTw1
namespace Go.Proofs.YtapkcgmjadpdiaaDoor
set_option linter.unusedVariables false
set_option linter.unusedSimpArgs false
open Go.Sp
section
variable {κ ν : Type} [DecidableEq κ]
theorem al_set_set {l : List (κ × ν)} {k : κ} {a b : ν} : alSet (alSet l k a) k b = alSet l k b := by
  induction l with
  | nil => rfl
  | cons p l ih =>
    obtain ⟨k2, v2⟩ := p
    by_cases e : k2 = k
    · simp [alSet, e]
    · simp [alSet, e, ih]
theorem al_set_same {l : List (κ × ν)} {k : κ} {v : ν} (h : alGet l k = some v) : alSet l k v = l := by
  obtain ⟨a, b, h1, h2, _⟩ := al_split h
  rw [h2, ← h1]
theorem al_del_mid {a b : List (κ × ν)} {k : κ} {v : ν} (h : k ∉ a.map (·.1)) : alDel (a ++ (k, v) :: b) k = a ++ b := by
  induction a with
  | nil => simp [alDel]
  | cons p a ih =>
    obtain ⟨k2, v2⟩ := p
    simp only [List.map_cons, List.mem_cons, not_or] at h
    have : ¬ k2 = k := fun e => h.1 e.symm
    simp [alDel, this, ih h.2]
end
def hit (d : Int) (nb : Nat) (S : List ByteArray) (p : (Int × ByteArray) × Nat) : Bool := decide (p.1.1 = d) && decide (p.2 = nb) && S.any fun y => decide (y = p.1.2)
def TreeC.without (C : TreeC) (d : Int) (nb : Nat) (S : List ByteArray) (c : Int) (x : Nod) : TreeC :=
  { C with ents := C.ents.filter fun p => !hit d nb S p, dirs := alSet C.dirs d (c - (C.ents.filter (hit d nb S)).length), nodes := alSet C.nodes nb { x with many := x.many - (C.ents.filter (hit d nb S)).length } }
section
variable {C : TreeC} {d : Int} {nb : Nat} {S : List ByteArray} {s : ByteArray} {c : Int} {x : Nod}
theorem hit_more {p : (Int × ByteArray) × Nat} (h : p.1 ≠ (d, s)) : hit d nb (S ++ [s]) p = hit d nb S p := by
  obtain ⟨⟨a, b⟩, m⟩ := p
  by_cases e : a = d
  · subst e
    have : ¬ s = b := fun e => h (by rw [e])
    simp [hit, this]
  · simp [hit, e]
theorem without_nil (hc : alGet C.dirs d = some c) (hx : alGet C.nodes nb = some x) : C.without d nb [] c x = C := by
  have e1 : C.ents.filter (hit d nb []) = [] := by simp [hit]
  have e2 : (C.ents.filter fun p => !hit d nb [] p) = C.ents := by simp [hit]
  simp [TreeC.without, e1, e2, al_set_same hc, al_set_same hx]
theorem without_dir (hc : alGet C.dirs d = some c) : alGet (C.without d nb S c x).dirs d = some (c - (C.ents.filter (hit d nb S)).length) := by
  simp [TreeC.without, al_set, hc]
theorem without_nod (hx : alGet C.nodes nb = some x) : alGet (C.without d nb S c x).nodes nb = some { x with many := x.many - (C.ents.filter (hit d nb S)).length } := by
  simp [TreeC.without, al_set, hx]
theorem without_take (hn : (C.ents.map (·.1)).Nodup) (hs : s ∉ S) (hf : (C.without d nb S c x).find d s = some nb) :
    (C.without d nb S c x).take d s nb { x with many := x.many - (C.ents.filter (hit d nb S)).length } (c - (C.ents.filter (hit d nb S)).length) = C.without d nb (S ++ [s]) c x ∧
      (C.ents.filter (hit d nb (S ++ [s]))).length = (C.ents.filter (hit d nb S)).length + 1 := by
  have hm : ((d, s), nb) ∈ C.ents := (List.mem_filter.1 (al_mem hf)).1
  obtain ⟨a, b, he⟩ := List.append_of_mem hm
  have hn2 := hn
  rw [he] at hn2
  simp only [List.map_append, List.map_cons] at hn2
  have n1 := List.nodup_append.1 hn2
  have n2 := List.nodup_cons.1 n1.2.1
  have ha : (d, s) ∉ a.map (·.1) := fun h => n1.2.2 _ h _ List.mem_cons_self rfl
  have ca : ∀ p ∈ a, hit d nb (S ++ [s]) p = hit d nb S p := fun p hp => hit_more fun e => ha (e ▸ List.mem_map_of_mem hp)
  have cb : ∀ p ∈ b, hit d nb (S ++ [s]) p = hit d nb S p := fun p hp => hit_more fun e => n2.1 (e ▸ List.mem_map_of_mem hp)
  have h0 : hit d nb S ((d, s), nb) = false := by simp [hit]; exact fun y hy e => hs (e ▸ hy)
  have h1 : hit d nb (S ++ [s]) ((d, s), nb) = true := by simp [hit]
  have hlen : (C.ents.filter (hit d nb (S ++ [s]))).length = (C.ents.filter (hit d nb S)).length + 1 := by
    rw [he]
    simp only [List.filter_append, List.filter_cons, h0, h1, if_true, Bool.false_eq_true, if_false, List.filter_congr ca, List.filter_congr cb, List.length_append, List.length_cons]
    omega
  refine ⟨?_, hlen⟩
  have hents : alDel (C.ents.filter fun p => !hit d nb S p) (d, s) = C.ents.filter fun p => !hit d nb (S ++ [s]) p := by
    rw [he]
    simp only [List.filter_append, List.filter_cons, h0, h1, Bool.not_false, Bool.not_true, if_true, Bool.false_eq_true, if_false]
    rw [al_del_mid]
    · congr 1
      · exact List.filter_congr fun p hp => by rw [ca p hp]
      · exact List.filter_congr fun p hp => by rw [cb p hp]
    · exact fun h => ha (by obtain ⟨p, hp, e⟩ := List.mem_map.1 h; exact e ▸ List.mem_map_of_mem (List.mem_filter.1 hp).1)
  simp only [TreeC.take, TreeC.without, hents, al_set_set, hlen]
  have e1 : c - ((C.ents.filter (hit d nb S)).length : Int) - 1 = c - ((((C.ents.filter (hit d nb S)).length + 1 : Nat)) : Int) := by omega
  have e2 : x.many - ((C.ents.filter (hit d nb S)).length : Int) - 1 = x.many - ((((C.ents.filter (hit d nb S)).length + 1 : Nat)) : Int) := by omega
  rw [e1, e2]
theorem without_skip (hn : (C.ents.map (·.1)).Nodup) (hs : s ∉ S) (hf : (C.without d nb S c x).find d s ≠ some nb) : C.without d nb (S ++ [s]) c x = C.without d nb S c x := by
  have key : ∀ p ∈ C.ents, hit d nb (S ++ [s]) p = hit d nb S p := by
    intro p hp
    by_cases e : p.1 = (d, s)
    · obtain ⟨⟨a, b⟩, m⟩ := p
      cases e
      by_cases em : m = nb
      · subst em
        refine absurd (al_of_mem ?_ (List.mem_filter.2 ⟨hp, ?_⟩)) hf
        · exact hn.sublist (List.Sublist.map _ List.filter_sublist)
        · simp [hit]; exact fun y hy e => hs (e ▸ hy)
      · simp [hit, em]
    · exact hit_more e
  have e1 : C.ents.filter (hit d nb (S ++ [s])) = C.ents.filter (hit d nb S) := List.filter_congr key
  have e2 : (C.ents.filter fun p => !hit d nb (S ++ [s]) p) = C.ents.filter fun p => !hit d nb S p := List.filter_congr fun p hp => by rw [key p hp]
  simp only [TreeC.without, e1, e2]
end
end Go.Proofs.YtapkcgmjadpdiaaDoor

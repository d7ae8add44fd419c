/- Maps in memory, told as lists of pairs, and what Go's operations on a map do to them. -/
import Derived.Maps.Keyed
import Derived.Maps.Range
import Derived.ChangeMaps4
import Derived.Test.YtapkcgmjadpdiaaDoorSep
namespace Go.Sp
set_option linter.unusedVariables false
set_option linter.unusedSimpArgs false
open Go.Maps (Keyed)
open Go.MapKept (Stamped)

def pairs (es : Array MapEntry) : List (Value × Value) := es.toList.map fun e => (e.key, e.val)
def OkKey (P : Program) (k : TypeId) (v : Value) : Prop := ∃ l, keyOf P k v = some l

structure MapIs (P : Program) (k : TypeId) (es : Array MapEntry) (clock : Nat) (m : List (Value × Value)) : Prop where
  pairs : pairs es = m
  stamped : Stamped es clock
  keys : ∀ e ∈ es.toList, OkKey P k e.key

/-- Block b is a map with these pairs. -/
def mp (P : Program) (k : TypeId) (b : Nat) (m : List (Value × Value)) : HProp := ex fun es => ex fun clock => pr (MapIs P k es clock m) * blk b (.map es clock)

theorem pairs_keys (es : Array MapEntry) : (pairs es).map (·.1) = es.toList.map (·.key) := by simp [pairs, Function.comp_def]

variable {P : Program} {k e t : TypeId} {w : World} {b : Nat} {m : List (Value × Value)} {R : HProp}

theorem holds_mp : Holds w (mp P k b m * R) ↔ ∃ es clock, MapIs P k es clock m ∧ Holds w (blk b (.map es clock) * R) := by
  unfold mp
  rw [holds_ex_star]
  constructor
  · rintro ⟨es, h⟩; rw [holds_ex_star] at h; obtain ⟨c, h⟩ := h; rw [star_assoc, holds_pr] at h; exact ⟨es, c, h⟩
  · rintro ⟨es, c, h⟩; refine ⟨es, ?_⟩; rw [holds_ex_star]; refine ⟨c, ?_⟩; rw [star_assoc, holds_pr]; exact h

theorem Holds.mp_nodup (h : Holds w (mp P k b m * R)) : (m.map (·.1)).Nodup := by
  obtain ⟨es, c, hm, _⟩ := holds_mp.1 h
  rw [← hm.pairs, pairs_keys]
  have := ((MapKept.stamped_iff es c).1 hm.stamped).2.2
  rw [List.Nodup, List.pairwise_map]; exact this
theorem Holds.mp_keys (h : Holds w (mp P k b m * R)) : ∀ p ∈ m, OkKey P k p.1 := by
  obtain ⟨es, c, hm, _⟩ := holds_mp.1 h
  intro p hp; rw [← hm.pairs] at hp
  obtain ⟨x, hx, rfl⟩ := List.mem_map.1 hp
  exact hm.keys x hx
theorem Holds.mp_lt (h : Holds w (mp P k b m * R)) : b < w.heap.size := by
  obtain ⟨es, c, _, h⟩ := holds_mp.1 h; exact h.lt

theorem holds_mp_made (h : Holds w R) : Holds (w.alloc (.map #[] 0)) (mp P k w.heap.size [] * R) :=
  holds_mp.2 ⟨#[], 0, ⟨rfl, MapKept.stamped_empty 0, fun _ h => by simp at h⟩, h.alloc _⟩

theorem run_look_in {v key : Value} (K : Keyed P k) (ht : P.underlying t = some (.map k e)) (h : Holds w (mp P k b m * R)) (hm : (key, v) ∈ m) (c : Bool) :
    (Instr.lookup t (.map (some b)) key c).run P w = .ok (if c then .tuple #[v, .bool true] else v) w := by
  obtain ⟨es, cl, hM, hb⟩ := holds_mp.1 h
  have hb := hb.get
  rw [← hM.pairs] at hm
  obtain ⟨x, hx, he⟩ := List.mem_map.1 hm
  simp only [Prod.mk.injEq] at he
  obtain ⟨rfl, rfl⟩ := he
  obtain ⟨kl, hkey⟩ := hM.keys x hx
  rcases K.find w hkey es.toList hM.keys with ⟨_, h2⟩ | ⟨j, e0, h1, h2, h3⟩
  · exact absurd rfl (h2 x hx)
  · have hp := ((MapKept.stamped_iff es cl).1 hM.stamped).2.2
    have : e0 = x := Go.entry_eq_of_key hp (List.mem_of_getElem? h2) hx h3
    subst this
    simp [Instr.lookup, run_underlying ht, MapKept.run_getObj_map hb, K.check w _ hkey, h1, Result.andThen]

theorem run_look_out {z key : Value} (K : Keyed P k) (ht : P.underlying t = some (.map k e)) (hz : (zeroValue e).run P w = .ok z w) (h : Holds w (mp P k b m * R)) (hk : OkKey P k key) (hm : key ∉ m.map (·.1)) (c : Bool) :
    (Instr.lookup t (.map (some b)) key c).run P w = .ok (if c then .tuple #[z, .bool false] else z) w := by
  obtain ⟨es, cl, hM, hb⟩ := holds_mp.1 h
  have hb := hb.get
  rw [← hM.pairs, pairs_keys] at hm
  obtain ⟨kl, hkey⟩ := hk
  rcases K.find w hkey es.toList hM.keys with ⟨h1, _⟩ | ⟨j, e0, h1, h2, h3⟩
  · simp [Instr.lookup, run_underlying ht, MapKept.run_getObj_map hb, K.check w _ hkey, h1, hz, Result.andThen]
  · exact absurd (List.mem_map.2 ⟨e0, List.mem_of_getElem? h2, h3⟩) hm

theorem run_update_new {v key : Value} (K : Keyed P k) (ht : P.underlying t = some (.map k e)) (h : Holds w (mp P k b m * R)) (hk : OkKey P k key) (hm : key ∉ m.map (·.1)) :
    ∃ W, (Instr.mapUpdate t (.map (some b)) key v).run P w = .ok () W ∧ Holds W (mp P k b (m ++ [(key, v)]) * R) ∧ W.heap.size = w.heap.size := by
  obtain ⟨es, cl, hM, hB⟩ := holds_mp.1 h
  have hb := hB.get
  rw [← hM.pairs, pairs_keys] at hm
  obtain ⟨kl, hkey⟩ := hk
  rcases K.find w hkey es.toList hM.keys with ⟨h1, h2⟩ | ⟨j, e0, h1, h2, h3⟩
  · refine ⟨_, ?_, holds_mp.2 ⟨es.push ⟨key, v, cl⟩, cl + 1, ⟨?_, MapKept.stamped_push hM.stamped h2, ?_⟩, hB.setObj _⟩, by simp⟩
    · simp [Instr.mapUpdate, run_underlying ht, MapKept.run_getObj_map hb, K.check w false hkey, h1, MapKept.run_setObj_map _ hb, Result.andThen]
    · simp [pairs, ← hM.pairs]
    · intro x hx
      simp only [Array.toList_push, List.mem_append, List.mem_singleton] at hx
      rcases hx with hx | rfl
      · exact hM.keys x hx
      · exact ⟨kl, hkey⟩
  · exact absurd (List.mem_map.2 ⟨e0, List.mem_of_getElem? h2, h3⟩) hm

theorem nodup_fst_unique : ∀ {l : List (Value × Value)}, (l.map (·.1)).Nodup → ∀ {j : Nat} {x y : Value} {a b : List (Value × Value)} {z : Value}, l = a ++ (x, y) :: b → l[j]? = some (x, z) → j = a.length := by
  intro l hn j x y a b z hl hj
  have ha : (l.map (·.1))[a.length]? = some x := by subst hl; simp
  have hb : (l.map (·.1))[j]? = some x := by simp [hj]
  obtain ⟨h1, e1⟩ := List.getElem?_eq_some_iff.1 ha
  obtain ⟨h2, e2⟩ := List.getElem?_eq_some_iff.1 hb
  exact (List.getElem_inj hn).1 (by rw [e1, e2])

theorem run_update_old {v v0 key : Value} {m1 m2 : List (Value × Value)} (K : Keyed P k) (ht : P.underlying t = some (.map k e)) (h : Holds w (mp P k b (m1 ++ (key, v0) :: m2) * R)) :
    ∃ W, (Instr.mapUpdate t (.map (some b)) key v).run P w = .ok () W ∧ Holds W (mp P k b (m1 ++ (key, v) :: m2) * R) ∧ W.heap.size = w.heap.size := by
  have hnd := h.mp_nodup
  obtain ⟨kl, hkey⟩ := h.mp_keys (key, v0) (by simp)
  obtain ⟨es, cl, hM, hB⟩ := holds_mp.1 h
  have hb := hB.get
  rcases K.find w hkey es.toList hM.keys with ⟨_, h2⟩ | ⟨j, e0, h1, h2, h3⟩
  · have : (key, v0) ∈ pairs es := by rw [hM.pairs]; simp
    obtain ⟨x, hx, he⟩ := List.mem_map.1 this
    simp only [Prod.mk.injEq] at he
    exact absurd he.1 (h2 x hx)
  · subst h3
    have hj : (pairs es)[j]? = some (e0.key, e0.val) := by simp [pairs, h2]
    rw [hM.pairs] at hj
    have hjl := nodup_fst_unique hnd rfl hj
    have hes : es[j]? = some e0 := by simpa using h2
    refine ⟨_, ?_, holds_mp.2 ⟨es.modify j fun x => { x with key := e0.key, val := v }, cl, ⟨?_, MapKept.stamped_modify hM.stamped j _ (fun _ _ => rfl) (fun x _ hx => ?_), ?_⟩, hB.setObj _⟩, by simp⟩
    · simp [Instr.mapUpdate, run_underlying ht, MapKept.run_getObj_map hb, K.check w false hkey, h1, hes, K.stays w hkey, MapKept.run_setObj_map _ hb, Result.andThen]
    · have hp := hM.pairs
      simp only [pairs] at hp ⊢
      apply List.ext_getElem?
      intro i
      rw [List.getElem?_map, Array.getElem?_toList, Array.getElem?_modify]
      have hpi : (es[i]?).map (fun e => (e.key, e.val)) = (m1 ++ (e0.key, v0) :: m2)[i]? := by rw [← hp]; simp
      by_cases hij : j = i
      · subst hij
        rw [if_pos rfl, hes, hjl]; simp
      · rw [if_neg hij, hpi]
        rcases Nat.lt_trichotomy i m1.length with hl | hl | hl
        · rw [List.getElem?_append_left hl, List.getElem?_append_left hl]
        · omega
        · rw [List.getElem?_append_right (by omega), List.getElem?_append_right (by omega), show i - m1.length = (i - m1.length - 1) + 1 from by omega, List.getElem?_cons_succ, List.getElem?_cons_succ]
    · rw [hes] at hx; cases hx; rfl
    · intro x hx
      have hk2 := MapKept.modify_keys (es := es) j (fun x => { x with key := e0.key, val := v }) (fun x hx => by rw [hes] at hx; cases hx; rfl)
      have : x.key ∈ es.toList.map (·.key) := by rw [← hk2]; exact List.mem_map.2 ⟨x, hx, rfl⟩
      obtain ⟨y, hy, he⟩ := List.mem_map.1 this
      rw [← he]; exact hM.keys y hy

theorem run_delete_in {v0 key : Value} {ty : TypeId} {m1 m2 : List (Value × Value)} (K : Keyed P k) (ht : P.underlying t = some (.map k e)) (h : Holds w (mp P k b (m1 ++ (key, v0) :: m2) * R)) :
    ∃ W, (Builtin.delete_ #[t, k] ty #[.map (some b), key]).run P w = .ok (.tuple #[]) W ∧ Holds W (mp P k b (m1 ++ m2) * R) ∧ W.heap.size = w.heap.size := by
  have hnd := h.mp_nodup
  obtain ⟨kl, hkey⟩ := h.mp_keys (key, v0) (by simp)
  obtain ⟨es, cl, hM, hB⟩ := holds_mp.1 h
  have hb := hB.get
  rcases K.find w hkey es.toList hM.keys with ⟨_, h2⟩ | ⟨j, e0, h1, h2, h3⟩
  · have : (key, v0) ∈ pairs es := by rw [hM.pairs]; simp
    obtain ⟨x, hx, he⟩ := List.mem_map.1 this
    simp only [Prod.mk.injEq] at he
    exact absurd he.1 (h2 x hx)
  · subst h3
    have hj : (pairs es)[j]? = some (e0.key, e0.val) := by simp [pairs, h2]
    rw [hM.pairs] at hj
    have hjl := nodup_fst_unique hnd rfl hj
    have hlt : j < es.size := by have := (List.getElem?_eq_some_iff.1 h2).1; simpa using this
    have hsub : (es.eraseIdxIfInBounds j).toList = es.toList.eraseIdx j := by
      unfold Array.eraseIdxIfInBounds; rw [dif_pos hlt]; simp
    refine ⟨_, ?_, holds_mp.2 ⟨es.eraseIdxIfInBounds j, cl, ⟨?_, MapKept.stamped_erase hM.stamped j, ?_⟩, hB.setObj _⟩, by simp⟩
    · simp [Builtin.delete_, run_underlying ht, MapKept.run_getObj_map hb, K.check w _ hkey, h1, MapKept.run_setObj_map _ hb, Result.andThen]
    · have hp := hM.pairs
      simp only [pairs] at hp ⊢
      rw [hsub, ChangeMaps.map_eraseIdx, hp, hjl, List.eraseIdx_append_of_length_le (Nat.le_refl _)]; simp
    · intro x hx
      rw [hsub] at hx
      exact hM.keys x ((List.eraseIdx_sublist _ _).subset hx)

theorem run_delete_out {key : Value} {ty : TypeId} (K : Keyed P k) (ht : P.underlying t = some (.map k e)) (h : Holds w (mp P k b m * R)) (hk : OkKey P k key) (hm : key ∉ m.map (·.1)) :
    ∃ W, (Builtin.delete_ #[t, k] ty #[.map (some b), key]).run P w = .ok (.tuple #[]) W ∧ Holds W (mp P k b m * R) ∧ W.heap.size = w.heap.size := by
  obtain ⟨es, cl, hM, hB⟩ := holds_mp.1 h
  have hb := hB.get
  have hm' := hm
  rw [← hM.pairs, pairs_keys] at hm'
  obtain ⟨kl, hkey⟩ := hk
  rcases K.find w hkey es.toList hM.keys with ⟨h1, _⟩ | ⟨j, e0, h1, h2, h3⟩
  · refine ⟨_, ?_, holds_mp.2 ⟨es, cl, hM, hB.setObj _⟩, by simp⟩
    simp [Builtin.delete_, run_underlying ht, MapKept.run_getObj_map hb, K.check w _ hkey, h1, MapKept.run_setObj_map _ hb, Result.andThen]
  · exact absurd (List.mem_map.2 ⟨e0, List.mem_of_getElem? h2, h3⟩) hm'

/-- The map b, in which the entry of 'key' bears the stamp s. -/
def mpAt (P : Program) (k : TypeId) (b : Nat) (m : List (Value × Value)) (key : Value) (s : Nat) : HProp :=
  ex fun es => ex fun clock => pr (MapIs P k es clock m ∧ ∃ x ∈ es.toList, x.key = key ∧ x.born = s) * blk b (.map es clock)
theorem holds_mpAt {key : Value} {s : Nat} : Holds w (mpAt P k b m key s * R) ↔ ∃ es clock, (MapIs P k es clock m ∧ ∃ x ∈ es.toList, x.key = key ∧ x.born = s) ∧ Holds w (blk b (.map es clock) * R) := by
  unfold mpAt
  rw [holds_ex_star]
  constructor
  · rintro ⟨es, h⟩; rw [holds_ex_star] at h; obtain ⟨c, h⟩ := h; rw [star_assoc, holds_pr] at h; exact ⟨es, c, h⟩
  · rintro ⟨es, c, h⟩; refine ⟨es, ?_⟩; rw [holds_ex_star]; refine ⟨c, ?_⟩; rw [star_assoc, holds_pr]; exact h

theorem run_entry_in {v0 key : Value} {m1 m2 : List (Value × Value)} (K : Keyed P k) (ht : P.underlying t = some (.map k e)) (h : Holds w (mp P k b (m1 ++ (key, v0) :: m2) * R)) :
    ∃ (s : Nat) (W : World), (Instr.mapEntry t (.map (some b)) key).run P w = .ok (.tuple #[v0, goInt s]) W ∧ Holds W (mpAt P k b (m1 ++ (key, v0) :: m2) key s * R) ∧ W.heap.size = w.heap.size := by
  have hnd := h.mp_nodup
  obtain ⟨kl, hkey⟩ := h.mp_keys (key, v0) (by simp)
  obtain ⟨es, cl, hM, hB⟩ := holds_mp.1 h
  have hb := hB.get
  rcases K.find w hkey es.toList hM.keys with ⟨_, h2⟩ | ⟨j, e0, h1, h2, h3⟩
  · have : (key, v0) ∈ pairs es := by rw [hM.pairs]; simp
    obtain ⟨x, hx, he⟩ := List.mem_map.1 this
    simp only [Prod.mk.injEq] at he
    exact absurd he.1 (h2 x hx)
  · subst h3
    have hj : (pairs es)[j]? = some (e0.key, e0.val) := by simp [pairs, h2]
    rw [hM.pairs] at hj
    have hjl := nodup_fst_unique hnd rfl hj
    rw [hjl] at hj; simp at hj; subst hj
    have hes : es[j]? = some e0 := by simpa using h2
    have hsame : (es.modify j fun x => { x with key := e0.key }) = es := by
      apply Array.ext_getElem?
      intro i
      rw [Array.getElem?_modify]
      by_cases hij : j = i
      · subst hij; rw [if_pos rfl, hes]; rfl
      · rw [if_neg hij]
    refine ⟨e0.born, _, ?_, holds_mpAt.2 ⟨es, cl, ⟨hM, e0, List.mem_of_getElem? h2, rfl, rfl⟩, hB.setObj _⟩, by simp⟩
    simp [Instr.mapEntry, run_underlying ht, MapKept.run_getObj_map hb, K.check w false hkey, h1, hes, K.stays w hkey, MapKept.run_setObj_map _ hb, Result.andThen, hsame]

theorem run_entryStore {v v0 key : Value} {s : Nat} {m1 m2 : List (Value × Value)} (h : Holds w (mpAt P k b (m1 ++ (key, v0) :: m2) key s * R)) :
    ∃ W, (Instr.entryStore t (.map (some b)) (goInt s) v).run P w = .ok () W ∧ Holds W (mp P k b (m1 ++ (key, v) :: m2) * R) ∧ W.heap.size = w.heap.size := by
  obtain ⟨es, cl, ⟨hM, x, hx, rfl, rfl⟩, hB⟩ := holds_mpAt.1 h
  have hb := hB.get
  have hst := (MapKept.stamped_iff es cl).1 hM.stamped
  have hnd : (m1 ++ (x.key, v0) :: m2).map (·.1) |>.Nodup := by
    rw [← hM.pairs, pairs_keys, List.Nodup, List.pairwise_map]; exact hst.2.2
  obtain ⟨j, hj⟩ : ∃ j, es.findIdx? (fun y => (y.born : Int) == (x.born : Int)) = some j := by
    cases hf : es.findIdx? (fun y => (y.born : Int) == (x.born : Int)) with
    | some j => exact ⟨j, rfl⟩
    | none =>
      rw [Array.findIdx?_eq_none_iff] at hf
      have := hf x (by simpa using hx)
      simp at this
  have hj' := hj
  rw [Array.findIdx?_eq_some_iff_getElem] at hj'
  obtain ⟨hlt, hjb, _⟩ := hj'
  have hjx : es[j] = x := by
    have hb1 : es[j].born = x.born := by have := beq_iff_eq.1 hjb; omega
    obtain ⟨i, hi, hxi⟩ := List.getElem_of_mem hx
    have hbn := hst.2.1
    have : j = i := by
      refine (List.getElem_inj (h₀ := by simpa using hlt) (h₁ := by simpa using hi) hbn).1 ?_
      simp only [List.getElem_map, Array.getElem_toList]
      rw [hb1, ← hxi]; simp
    subst this; rw [← hxi]; simp
  have hes : es[j]? = some x := by rw [Array.getElem?_eq_getElem hlt, hjx]
  have hpj : (pairs es)[j]? = some (x.key, x.val) := by simp [pairs, hes]
  rw [hM.pairs] at hpj
  have hjl := nodup_fst_unique hnd rfl hpj
  refine ⟨_, ?_, holds_mp.2 ⟨es.modify j fun y => { y with val := v }, cl, ⟨?_, MapKept.stamped_modify hM.stamped j _ (fun _ _ => rfl) (fun _ _ _ => rfl), ?_⟩, hB.setObj _⟩, by simp⟩
  · simp [Instr.entryStore, MapKept.run_getObj_map hb, goInt, asInt, asIntOf, Sem.run, hj, MapKept.run_setObj_map _ hb, Result.andThen]
  · have hp := hM.pairs
    simp only [pairs] at hp ⊢
    apply List.ext_getElem?
    intro i
    rw [List.getElem?_map, Array.getElem?_toList, Array.getElem?_modify]
    have hpi : (es[i]?).map (fun e => (e.key, e.val)) = (m1 ++ (x.key, v0) :: m2)[i]? := by rw [← hp]; simp
    by_cases hij : j = i
    · subst hij
      rw [if_pos rfl, hes, hjl]; simp
    · rw [if_neg hij, hpi]
      rcases Nat.lt_trichotomy i m1.length with hl | hl | hl
      · rw [List.getElem?_append_left hl, List.getElem?_append_left hl]
      · omega
      · rw [List.getElem?_append_right (by omega), List.getElem?_append_right (by omega), show i - m1.length = (i - m1.length - 1) + 1 from by omega, List.getElem?_cons_succ, List.getElem?_cons_succ]
  · intro y hy
    have hk2 := MapKept.modify_keys (es := es) j (fun y => { y with val := v }) (fun _ _ => rfl)
    have : y.key ∈ es.toList.map (·.key) := by rw [← hk2]; exact List.mem_map.2 ⟨y, hy, rfl⟩
    obtain ⟨z, hz, he⟩ := List.mem_map.1 this
    rw [← he]; exact hM.keys z hz

end Go.Sp

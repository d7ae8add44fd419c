/- A range over a map: what is still to come, as a list of pairs. -/
import Derived.Maps.Range
import Derived.Test.YtapkcgmjadpdiaaDoorMaps
namespace Go.Sp
set_option linter.unusedVariables false
set_option linter.unusedSimpArgs false
open Go.Maps (Keyed)
open Go.MapKept (Stamped)
variable {P : Program} {k e t : TypeId} {w : World} {b r : Nat} {m l : List (Value × Value)} {R : HProp}

structure RngIs (P : Program) (k : TypeId) (es : Array MapEntry) (clock since : Nat) (seen : Array Nat) (c0 : Nat) (m l : List (Value × Value)) : Prop where
  map : MapIs P k es clock m
  old : ∀ x ∈ es.toList, x.born < since
  s0 : since ≤ c0
  s1 : since ≤ clock
  left : (es.toList.filter fun x => !seen.contains x.born).map (fun e => (e.key, e.val)) = l

/-- Block b is a map with the pairs m, block r ranges over it; l are the pairs that are still to come. -/
def rng (P : Program) (k : TypeId) (b r : Nat) (m l : List (Value × Value)) : HProp :=
  ex fun es => ex fun clock => ex fun since => ex fun seen => ex fun c0 => pr (RngIs P k es clock since seen c0 m l) * (blk b (.map es clock) * blk r (.mapIter (some b) since seen c0))

theorem holds_rng : Holds w (rng P k b r m l * R) ↔ ∃ es clock since seen c0, RngIs P k es clock since seen c0 m l ∧ Holds w (blk b (.map es clock) * (blk r (.mapIter (some b) since seen c0) * R)) := by
  unfold rng
  simp only [holds_ex_star, star_assoc, holds_pr]

theorem run_range_mp (ht : P.underlying t = some (.map k e)) (h : Holds w (mp P k b m * R)) :
    ∃ W, (Instr.range t (.map (some b))).run P w = .ok (.pointer (some ⟨w.heap.size, 0, none⟩)) W ∧ Holds W (rng P k b w.heap.size m m * R) ∧ W.heap.size = w.heap.size + 1 := by
  obtain ⟨es, clock, hm, hB⟩ := holds_mp.1 h
  refine ⟨_, run_range_map w t k e b es clock ht hB.get, holds_rng.2 ⟨es, clock, clock, #[], clock, ⟨hm, hm.stamped.1, Nat.le_refl _, Nat.le_refl _, ?_⟩, (hB.alloc _).to (star_left_comm _ _ _)⟩, by simp⟩
  have := hm.pairs
  simp only [pairs] at this
  rw [← this]
  congr 1
  exact List.filter_eq_self.2 (by simp)

theorem filter_drop {es : List MapEntry} {p : MapEntry → Bool} {x : MapEntry} (hn : (es.map (·.born)).Nodup) (hx : x ∈ es.filter p) :
    ∃ f1 f2, es.filter p = f1 ++ x :: f2 ∧ (es.filter fun y => p y && !(y.born == x.born)) = f1 ++ f2 := by
  obtain ⟨f1, f2, hf⟩ := List.append_of_mem hx
  refine ⟨f1, f2, hf, ?_⟩
  have h1 : (es.filter fun y => p y && !(y.born == x.born)) = (es.filter p).filter fun y => !(y.born == x.born) := by
    rw [List.filter_filter]
    exact List.filter_congr fun y _ => by rw [Bool.and_comm]
  have hn2 : ((es.filter p).map (·.born)).Nodup := hn.sublist (List.Sublist.map _ List.filter_sublist)
  rw [h1]
  rw [hf] at hn2 ⊢
  simp only [List.map_append, List.map_cons] at hn2
  have h2 := List.nodup_append.1 hn2
  have h3 := List.nodup_cons.1 h2.2.1
  rw [List.filter_append, List.filter_cons]
  simp only [beq_self_eq_true, Bool.not_true, Bool.false_eq_true, if_false]
  rw [List.filter_eq_self.2, List.filter_eq_self.2]
  · intro y hy
    have : y.born ≠ x.born := fun e => h3.1 (e ▸ List.mem_map_of_mem hy)
    simpa using this
  · intro y hy
    have : y.born ≠ x.born := fun e => h2.2.2 _ (List.mem_map_of_mem hy) _ List.mem_cons_self e
    simpa using this

theorem run_next_rng (h : Holds w (rng P k b r m l * R)) (ty : TypeId) :
    (l = [] ∧ (Instr.next (.pointer (some ⟨r, 0, none⟩)) false ty).run P w = .ok (.tuple #[.bool false]) w) ∨
    ∃ key v l1 l2 W, l = l1 ++ (key, v) :: l2 ∧ (Instr.next (.pointer (some ⟨r, 0, none⟩)) false ty).run P w = .ok (.tuple #[.bool true, key, v]) W ∧
      Holds W (rng P k b r m (l1 ++ l2) * R) ∧ W.heap.size = w.heap.size ∧ (Instr.entry (.pointer (some ⟨r, 0, none⟩))).run P W = .ok (.tuple #[key, v]) W := by
  obtain ⟨es, clock, since, seen, c0, hI, hB⟩ := holds_rng.1 h
  have hb := hB.get
  have hr := (hB.to (star_left_comm _ _ _)).get
  rcases run_next_at (P := P) w ty r b since c0 seen es clock hr hb hI.old hI.s0 with ⟨h0, hrun⟩ | ⟨x, hx, w1, hw1, hrun⟩
  · refine .inl ⟨?_, hrun⟩
    rw [← hI.left]
    have : (leftOf es seen).toList = [] := by simpa using h0
    simp only [leftOf, Array.toList_filter] at this
    rw [this]; rfl
  · have hst := (MapKept.stamped_iff es clock).1 hI.map.stamped
    simp only [leftOf, Array.toList_filter] at hx
    obtain ⟨f1, f2, hf, hg⟩ := filter_drop hst.2.1 hx
    have hxe : x ∈ es.toList := (List.mem_filter.1 hx).1
    have hB1 : Holds w1 (blk r (.mapIter (some b) since seen c0) * (blk b (.map es clock) * R)) := by
      rcases hw1 with rfl | rfl
      · exact hB.to (star_left_comm _ _ _)
      · exact (hB.to (star_left_comm _ _ _)).drew
    have hB2 := hB1.setObj (.mapIter (some b) since (seen.push x.born) clock)
    refine .inr ⟨x.key, x.val, f1.map (fun e => (e.key, e.val)), f2.map (fun e => (e.key, e.val)), _, ?_, hrun, holds_rng.2 ⟨es, clock, since, seen.push x.born, clock, ⟨hI.map, hI.old, hI.s1, hI.s1, ?_⟩, hB2.to (star_left_comm _ _ _)⟩, ?_, ?_⟩
    · rw [← hI.left, hf]; simp
    · rw [← List.map_append, ← hg]
      congr 1
      refine List.filter_congr fun y _ => ?_
      have e : (y.born == x.born) = decide (y.born = x.born) := by by_cases h : y.born = x.born <;> simp [h]
      simp [Bool.not_or, e]
    · rcases hw1 with rfl | rfl <;> simp [Go.ChangeMaps.setBlock]
    · exact run_entry_at _ r b since seen es clock x hB2.get (hB2.to (star_left_comm _ _ _)).get hxe hst.2.1

theorem holds_rng_end (h : Holds w (rng P k b r m l * R)) : Holds w (mp P k b m * R) := by
  obtain ⟨es, clock, since, seen, c0, hI, hB⟩ := holds_rng.1 h
  exact holds_mp.2 ⟨es, clock, hI.map, (hB.to (star_left_comm _ _ _)).right⟩
theorem holds_rng_ne (h : Holds w (rng P k b r m l * R)) : r < w.heap.size ∧ b < w.heap.size := by
  obtain ⟨es, clock, since, seen, c0, hI, hB⟩ := holds_rng.1 h
  exact ⟨(hB.to (star_left_comm _ _ _)).lt, hB.lt⟩
theorem holds_rng_left (h : Holds w (rng P k b r m l * R)) : w.rangeLeft b r = l.length := by
  obtain ⟨es, clock, since, seen, c0, hI, hB⟩ := holds_rng.1 h
  have hb := hB.get
  have hr := (hB.to (star_left_comm _ _ _)).get
  simp only [World.rangeLeft, hb, hr]
  rw [← hI.left, List.length_map, ← Array.toList_filter, Array.length_toList]
  rfl
end Go.Sp

/- Slices that a call or an object has for itself, told as lists of cells, and what append and make do to them. -/
import Derived.Laws.AppendOwn
import Derived.Deep.AppendLies
import Derived.Laws.MakeOwn
import Derived.Test.YtapkcgmjadpdiaaDoorSep
namespace Go.Sp
set_option linter.unusedVariables false
set_option linter.unusedSimpArgs false

/-- v is a slice of n elements of type E, k cells each; its array is had whole. -/
def own (E : TypeId) (k : Nat) (v : Value) (n : Nat) (xs : List Value) : HProp := fun _ h =>
  (v = .slice none 0 0 ∧ n = 0 ∧ xs = [] ∧ h = nil) ∨
  ∃ g cap cur, v = .slice (some ⟨g, 0, none⟩) n cap ∧ n ≤ cap ∧ cap ≤ maxLen ∧ cur.size = cap * k ∧ cur.toList.take (n * k) = xs ∧ xs.length = n * k ∧ h = fun j => if j = g then some (Obj.cells cur E (0, 0)) else none

theorem own_nil (E k : Nat) : own E k (.slice none 0 0) 0 [] = emp := by
  funext e h; refine propext ⟨?_, fun hh => .inl ⟨rfl, rfl, rfl, hh⟩⟩
  rintro (⟨_, _, _, rfl⟩ | ⟨g, cap, cur, hv, _⟩)
  · rfl
  · cases hv

variable {w : World} {E k : Nat} {v : Value} {n : Nat} {xs : List Value} {R : HProp}

theorem own_cases : Holds w (own E k v n xs * R) ↔ (v = .slice none 0 0 ∧ n = 0 ∧ xs = [] ∧ Holds w R) ∨
    ∃ g cap cur, v = .slice (some ⟨g, 0, none⟩) n cap ∧ n ≤ cap ∧ cap ≤ maxLen ∧ cur.size = cap * k ∧ cur.toList.take (n * k) = xs ∧ xs.length = n * k ∧ Holds w (blk g (.cells cur E (0, 0)) * R) := by
  constructor
  · rintro ⟨h, ⟨h1, h2, d, rfl, p, q⟩, s⟩
    rcases p with ⟨a, b, c, rfl⟩ | ⟨g, cap, cur, a, b, c, e1, e2, e3, rfl⟩
    · exact .inl ⟨a, b, c, h2, q, s⟩
    · exact .inr ⟨g, cap, cur, a, b, c, e1, e2, e3, _, ⟨_, h2, d, rfl, rfl, q⟩, s⟩
  · rintro (⟨a, b, c, h, q, s⟩ | ⟨g, cap, cur, a, b, c, e1, e2, e3, h, ⟨h1, h2, d, rfl, p, q⟩, s⟩)
    · exact ⟨h, ⟨nil, h, nil_disj h, (nil_join h).symm, .inl ⟨a, b, c, rfl⟩, q⟩, s⟩
    · cases p
      exact ⟨_, ⟨_, h2, d, rfl, .inr ⟨g, cap, cur, a, b, c, e1, e2, e3, rfl⟩, q⟩, s⟩

theorem Holds.ownsRow (h : Holds w (own E k v n xs * R)) : w.ownsRow 0 E k v n xs := by
  rcases own_cases.1 h with ⟨rfl, rfl, rfl, _⟩ | ⟨g, cap, cur, rfl, b, c, e1, e2, e3, hh⟩
  · exact ⟨by simp, .inl ⟨rfl, rfl⟩⟩
  · exact ⟨e3, .inr ⟨g, cap, cur, rfl, Nat.zero_le _, hh.get, b, c, e1, e2⟩⟩
theorem Holds.own_len (h : Holds w (own E k v n xs * R)) : xs.length = n * k := h.ownsRow.1
theorem Holds.own_max (h : Holds w (own E k v n xs * R)) : n ≤ maxLen := by
  rcases own_cases.1 h with ⟨rfl, rfl, rfl, _⟩ | ⟨g, cap, cur, rfl, b, c, e1, e2, e3, hh⟩
  · exact Nat.zero_le _
  · exact Nat.le_trans b c
theorem Holds.own_slice (h : Holds w (own E k v n xs * R)) : ∃ a cap, v = .slice a n cap ∧ n ≤ cap := by
  rcases own_cases.1 h with ⟨rfl, rfl, rfl, _⟩ | ⟨g, cap, cur, rfl, b, c, e1, e2, e3, hh⟩
  · exact ⟨_, _, rfl, Nat.le_refl _⟩
  · exact ⟨_, _, rfl, b⟩

/-- Behind an append: in the old array, or in one at the old end of memory. -/
theorem Holds.appended {w' : World} {g cap m : Nat} {news : List Value} (h : Holds w (own E k v n xs * R)) (hm : 0 < m)
    (ho : w'.ownsRow 0 E k (.slice (some ⟨g, 0, none⟩) (n + m) cap) (n + m) (xs ++ news)) (hg : w.grownBy w' v.ownBlock) (hat : v.ownBlock = some g ∨ g = w.heap.size) :
    Holds w' (own E k (.slice (some ⟨g, 0, none⟩) (n + m) cap) (n + m) (xs ++ news) * R) := by
  obtain ⟨hl, h1 | ⟨g', cap', cur', hv, _, hb, hc1, hc2, hc3, hc4⟩⟩ := ho
  · omega
  simp only [Value.slice.injEq, Option.some.injEq, Addr.mk.injEq, and_true, true_and] at hv
  obtain ⟨rfl, rfl⟩ := hv
  refine own_cases.2 (.inr ⟨g, cap, cur', rfl, hc1, hc2, hc3, hc4, hl, ?_⟩)
  have key : ∀ k, k < w.heap.size → k ≠ g → some k ≠ v.ownBlock → w'.heap[k]? = w.heap[k]? := fun k hk _ hn => hg.block k hk hn
  rcases own_cases.1 h with ⟨rfl, rfl, rfl, hh⟩ | ⟨g0, cap0, cur0, rfl, b, c, e1, e2, e3, hh⟩
  · obtain ⟨hp, p, s⟩ := hh
    have hgs : g = w.heap.size := by rcases hat with z | z; · cases z
                                     · exact z
    have hlt : ∀ b o', hp b = some o' → b < w.heap.size := fun b o' x => by
      have := s b o' x; rw [Array.getElem?_eq_some_iff] at this; exact this.1
    have he : envOf w' = envOf w := by simp only [envOf, hg.os, hg.tape, hg.output]
    refine ⟨join (fun j => if j = g then some (Obj.cells cur' E (0, 0)) else none) hp, ⟨_, hp, ?_, rfl, rfl, he ▸ p⟩, ?_⟩
    · intro b
      by_cases e : b = g
      · refine .inr ?_
        cases x : hp b with
        | none => rfl
        | some o' => have := hlt b o' x; omega
      · exact .inl (by simp [e])
    · intro b o' x
      simp only [join] at x
      by_cases e : b = g
      · subst e; simp at x; subst x; exact hb
      · simp [e] at x
        rw [hg.block b (hlt b o' x) (by simp [Value.ownBlock])]; exact s b o' x
  · rcases hat with z | z
    · simp only [Value.ownBlock, Option.some.injEq] at z
      subst z
      refine hh.turn hg.os hg.tape hg.output hb fun k hk hks => hg.block k hks ?_
      simp only [Value.ownBlock, ne_eq, Option.some.injEq]; exact hk
    · have hR := hh.right
      obtain ⟨hp, ⟨h1, h2, d, rfl, p, q⟩, s⟩ := hh
      cases p
      have hlt : ∀ b o', h2 b = some o' → b < w.heap.size ∧ b ≠ g0 := fun b o' x => by
        have hb0 : b ≠ g0 := by
          rintro rfl
          rcases d b with y | y
          · simp at y
          · rw [x] at y; cases y
        have := s b o' (by simp [join, hb0, x]); rw [Array.getElem?_eq_some_iff] at this; exact ⟨this.1, hb0⟩
      have he : envOf w' = envOf w := by simp only [envOf, hg.os, hg.tape, hg.output]
      refine ⟨join (fun j => if j = g then some (Obj.cells cur' E (0, 0)) else none) h2, ⟨_, h2, ?_, rfl, rfl, he ▸ q⟩, ?_⟩
      · intro b
        by_cases e : b = g
        · refine .inr ?_
          cases x : h2 b with
          | none => rfl
          | some o' => have := (hlt b o' x).1; omega
        · exact .inl (by simp [e])
      · intro b o' x
        simp only [join] at x
        by_cases e : b = g
        · subst e; simp at x; subst x; exact hb
        · simp [e] at x
          obtain ⟨y1, y2⟩ := hlt b o' x
          rw [hg.block b y1 (by simp only [Value.ownBlock, ne_eq, Option.some.injEq]; exact y2)]
          exact s b o' (by simp [join, y2, x])

theorem madeCells_one (z : Value) (n : Nat) : madeCells #[z] n = (List.replicate n z).toArray := by
  apply Array.ext'
  simp only [madeCells, Array.toList_map, Array.toList_range]
  apply List.ext_getElem?
  intro i
  by_cases h : i < n
  · simp [h, Nat.mod_one]
  · simp [h]

/-- An append of no element. -/
theorem run_append_zero {P : Program} (t ty e : TypeId) (i : TypeInfo) (ht : P.underlying t = some (.slice e)) (hi : P.info? e = some i) (a : Option Addr) (n cap : Nat) (hn : n ≤ cap) (x : Option Addr) (c : Nat) (w : World) :
    (Builtin.append_ #[t, t] ty #[.slice a n cap, .slice x 0 c]).run P w = .ok (.slice a n cap) w := by
  cases a <;> cases x <;> simp [Builtin.append_, run_underlying ht, sizeOf, typeInfo, hi, Builtin.lenOf, Builtin.firstCells, hn, storeCells, loadCells, loadCellsFrom, Sem.run, Result.andThen]

/-- The cells of what a slice shows, somewhere in memory. -/
def Reads (w : World) (k : Nat) (v : Value) (n : Nat) (xs : List Value) : Prop :=
  xs.length = n * k ∧ n ≤ maxLen ∧ ((v = .slice none 0 0 ∧ n = 0) ∨ ∃ b o c, v = .slice (some ⟨b, o, none⟩) n c ∧ b < w.heap.size ∧ ∀ j u, xs[j]? = some u → w.cell? ⟨b, o + j, none⟩ = some u)
theorem Holds.reads (h : Holds w (own E k v n xs * R)) : Reads w k v n xs := by
  rcases own_cases.1 h with ⟨rfl, rfl, rfl, _⟩ | ⟨g, cap, cur, rfl, b, c, e1, e2, e3, hh⟩
  · exact ⟨by simp, Nat.zero_le _, .inl ⟨rfl, rfl⟩⟩
  · refine ⟨e3, Nat.le_trans b c, .inr ⟨g, 0, cap, rfl, hh.lt, fun j u hj => ?_⟩⟩
    have hg := hh.get
    rw [← e2, List.getElem?_take] at hj
    split at hj
    · simp only [World.cell?, hg, Nat.zero_add]; simpa using hj
    · cases hj
theorem Reads.below {w' : World} (h : Reads w k v n xs) (hb : RowKit.Below w.heap.size w w') : Reads w' k v n xs := by
  obtain ⟨h1, h2, h3 | ⟨b, o, c, hv, hl, hc⟩⟩ := h
  · exact ⟨h1, h2, .inl h3⟩
  · exact ⟨h1, h2, .inr ⟨b, o, c, hv, Nat.lt_of_lt_of_le hl hb.size, fun j u hj => by rw [hb.cell (p := ⟨b, o + j, none⟩) hl]; exact hc j u hj⟩⟩

end Go.Sp

/- append to a slice of the call's own. -/
import Derived.Maps.AppendAt
import Derived.Test.YtapkcgmjadpdiaaDoorSlices
namespace Go.Sp
set_option linter.unusedVariables false
set_option linter.unusedSimpArgs false
open Go.RowKit
variable {P : Program} {w : World} {e : TypeId} {k n : Nat} {v : Value} {xs : List Value} {R : HProp}

theorem holds_new' {w0 w' : World} {Q : HProp} {g : Nat} {o : Obj} (h : Holds w0 Q) (hb : Below w0.heap.size w0 w') (hg : w'.heap[g]? = some o) (hge : w0.heap.size ≤ g) : Holds w' (blk g o * Q) := by
  obtain ⟨hp, p, sb⟩ := h
  have hlt : ∀ b o', hp b = some o' → b < w0.heap.size := fun b o' x => by
    have := sb b o' x; rw [Array.getElem?_eq_some_iff] at this; exact this.1
  have he : envOf w' = envOf w0 := by simp only [envOf, hb.os, hb.tape, hb.output]
  refine ⟨join (fun j => if j = g then some o else none) hp, ⟨_, hp, ?_, rfl, rfl, he ▸ p⟩, ?_⟩
  · intro b
    by_cases e : b = g
    · refine .inr ?_
      cases x : hp b with
      | none => rfl
      | some o' => have := hlt b o' x; omega
    · exact .inl (by simp [e])
  · intro b o' x
    simp only [join] at x
    by_cases e : b = g
    · subst e; simp at x; subst x; exact hg
    · simp [e] at x
      rw [hb.block b (hlt b o' x)]; exact sb b o' x

theorem run_append_sep {t ty : TypeId} {i : TypeInfo} {z : Value} {bytes : Nat} (ht : P.underlying t = some (.slice e)) (hi : P.info? e = some i) (hz : i.zero = some z) (hsize : i.size = k) (hby : i.bytes = bytes) (hzs : z.cells.size = k) (hsz : 0 < k)
    (h : Holds w (own e k v n xs * R)) (a : Addr) (m c : Nat) (news : List Value) (hl : news.length = m * k) (hnews : ∀ j u, news[j]? = some u → w.cell? (a.add j) = some u) (h1 : ∀ u ∈ news, u.oneCell' = true)
    (h63 : n + m ≤ maxLen) (hbytes : (n + m) * bytes ≤ 140737488355328) :
    ∃ v' W, (Builtin.append_ #[t, t] ty #[v, .slice (some a) m c]).run P w = .ok v' W ∧ Holds W (own e k v' (n + m) (xs ++ news) * R) ∧ w.heap.size ≤ W.heap.size ∧ ((v' = .slice none 0 0) → n + m = 0) := by
  rcases own_cases.1 h with ⟨rfl, rfl, rfl, hR⟩ | ⟨g, cap, cur, rfl, hnc, hcm, hcs, htk, hxl, hB⟩
  · obtain ⟨v', W, hrun, hown, hg, hnil, hblk⟩ := run_append_own_at (P := P) w w.heap.size t ty e i z k bytes ht hi hz hsize hby hzs hsz (.slice none 0 0) 0 [] ⟨by simp, .inl ⟨rfl, rfl⟩⟩ a m c news hl hnews h1 h63 hbytes (Nat.le_refl _)
    have hB : Below w.heap.size w W := ⟨hg.os, hg.tape, hg.output, hg.size, fun j hj => hg.block j hj (by simp [Value.ownBlock])⟩
    refine ⟨v', W, hrun, ?_, hg.size, fun hv => by simpa using (hnil.1 hv).2⟩
    obtain ⟨hxl, ⟨rfl, h0⟩ | ⟨g, cap, cur, rfl, hbg, hgg, hnc, hcm, hcs, htk⟩⟩ := hown
    · refine own_cases.2 (.inl ⟨rfl, h0, ?_, hR.below hB⟩)
      rw [h0] at hxl; exact List.eq_nil_of_length_eq_zero (by simpa using hxl)
    · exact own_cases.2 (.inr ⟨g, cap, cur, rfl, hnc, hcm, hcs, htk, hxl, holds_new' hR hB hgg hbg⟩)
  · have hlt := hB.lt
    obtain ⟨v', W, hrun, hown, hg, hnil, hblk⟩ := run_append_own_at (P := P) w 0 t ty e i z k bytes ht hi hz hsize hby hzs hsz (.slice (some ⟨g, 0, none⟩) n cap) n xs ⟨hxl, .inr ⟨g, cap, cur, rfl, Nat.zero_le _, hB.get, hnc, hcm, hcs, htk⟩⟩ a m c news hl hnews h1 h63 hbytes (Nat.zero_le _)
    refine ⟨v', W, hrun, ?_, hg.size, fun hv => by have := (hnil.1 hv).1; simp at this⟩
    obtain ⟨hxl2, ⟨rfl, h0⟩ | ⟨g2, cap2, cur2, rfl, hbg, hgg, hnc2, hcm2, hcs2, htk2⟩⟩ := hown
    · have := (hnil.1 rfl).1; simp at this
    · obtain ⟨o2, ho2⟩ : ∃ o2, W.heap[g]? = some o2 := ⟨_, Array.getElem?_eq_getElem (Nat.lt_of_lt_of_le hlt hg.size)⟩
      have hW : Holds W (blk g o2 * R) := hB.turn hg.os hg.tape hg.output ho2 (fun j hj hjl => hg.block j hjl (by simpa [Value.ownBlock] using hj))
      refine own_cases.2 (.inr ⟨g2, cap2, cur2, rfl, hnc2, hcm2, hcs2, htk2, hxl2, ?_⟩)
      by_cases e2 : g2 = g
      · subst e2
        rw [ho2] at hgg; cases hgg; exact hW
      · have hge : g2 = w.heap.size := by
          rcases hblk with hb | hb
          · simp [Value.ownBlock] at hb; exact absurd hb e2
          · simpa [Value.ownBlock] using hb
        have hw1 := hB.setObj o2
        have hB1 : Below w.heap.size { w with heap := w.heap.setIfInBounds g o2 } W := ⟨hg.os, hg.tape, hg.output, by simpa using hg.size, fun j hj => by
          by_cases ej : j = g
          · subst ej; simp [hlt, ho2]
          · rw [hg.block j hj (by simpa [Value.ownBlock] using ej)]; simp [Array.getElem?_setIfInBounds, Ne.symm ej]⟩
        have h3 := holds_new' hw1 (by simpa using hB1) hgg (by simp [hge])
        exact (h3.to (star_left_comm _ _ _)).right

theorem wpList_append_sep {ops : Array Oper} {rest : List Oper} {o : Oper} {a : Act} {Q : Exit → Act → World → Prop} (hgd : o.guard = none) (s x : Operand) (t : TypeId)
    (ho : o.op = .call { callee := .builtin .append, args := #[s, x], argTypes := #[t, t] }) {i : TypeInfo} {z : Value} {bytes : Nat} (ht : P.underlying t = some (.slice e)) (hi : P.info? e = some i) (hz : i.zero = some z) (hsize : i.size = k) (hby : i.bytes = bytes) (hzs : z.cells.size = k) (hsz : 0 < k)
    (hs : a.eval s = v) (h : Holds w (own e k v n xs * R)) (ad : Addr) (m c : Nat) (news : List Value) (hx : a.eval x = .slice (some ad) m c) (hl : news.length = m * k) (hnews : ∀ j u, news[j]? = some u → w.cell? (ad.add j) = some u) (h1 : ∀ u ∈ news, u.oneCell' = true)
    (h63 : n + m ≤ maxLen) (hbytes : (n + m) * bytes ≤ 140737488355328)
    (hk : ∀ v' W, Hid (Holds W (own e k v' (n + m) (xs ++ news) * R)) → w.heap.size ≤ W.heap.size → ((v' = .slice none 0 0) → n + m = 0) → wpList P ops Q rest (a.put o.dst v') W) : wpList P ops Q (o :: rest) a w := by
  obtain ⟨v', W, hrun, hW, hle, hn⟩ := run_append_sep (ty := o.type) ht hi hz hsize hby hzs hsz h ad m c news hl hnews h1 h63 hbytes
  refine wpList_plain hgd fun K hK => ?_
  unfold Oper.wp
  simp [execOp, ho, resolve, invoke, builtin, hs, hx, hrun, Result.andThen]
  exact hK _ _ (hk v' W hW hle hn)
end Go.Sp

/- store.Drop. -/
import Derived.Test.YtapkcgmjadpdiaaDoorStore3
namespace Go.Proofs.YtapkcgmjadpdiaaDoor
set_option linter.unusedVariables false
set_option linter.unusedSimpArgs false
open Go.RowKit Go.Maps Go.Sp Go.Proofs.YtapkcgmjadpdiaaDoorW.PrintLast
section
variable {w : World} {s : Nat} {Q : StoreC} {R : HProp}

theorem sdrop_none (h : Holds w (storeH s Q * R)) {u : Int} (hu : I64 u) (hx : alGet Q.segs u = none) :
    Calls Tryd.prog 16 #[.pointer (some ⟨s, 0, none⟩), .int .i64 u] w fun e w' => e = .returned (.int .i64 4) ∧ w = w' := by
  have hg := sget_any h hu
  simp only [StoreC.get, StoreC.err, hx] at hg
  have HG := Lib.hid hg
  clear hg h hx
  go_enter Tryd.func16, Tryd.ntmps16
  go_wp2_with fail
  refine HG.out.mono ?_
  rintro e w' ⟨rfl, rfl⟩
  go_wp2
  go_ret
  exact ⟨rfl, rfl⟩

set_option maxRecDepth 100000 in
set_option maxHeartbeats 1000000 in
theorem sdrop_ok (h : Holds w (storeH s Q * R)) {u : Int} (hu : I64 u) {x : Seg} (hx : alGet Q.segs u = some x) (hus : (x.ws.length : Int) ≤ Q.used ∧ Q.used ≤ 4294967296) :
    Calls Tryd.prog 16 #[.pointer (some ⟨s, 0, none⟩), .int .i64 u] w fun e w' => e = .returned (.int .i64 0) ∧ Holds w' (storeH s ⟨Q.quota, Q.used - x.ws.length, Q.next, alDel Q.segs u⟩ * R) := by
  have hg := sget_any h hu
  obtain ⟨a, c, hv⟩ := seg_slice h hx
  simp only [StoreC.get, StoreC.err, hx, hv, Option.isSome_some, if_true] at hg
  have HG := Lib.hid hg
  obtain ⟨ml, ho⟩ := holds_store.1 h
  obtain ⟨c0, c1, c2, c3⟩ := StoreAt.c ho
  have f1 := StoreAt.f ho
  have h1 : Holds (w.setCell ⟨s, 1, none⟩ (.int .i64 (Q.used - x.ws.length))) (blk s (.cells (stCells ⟨Q.quota, Q.used - x.ws.length, Q.next, Q.segs⟩ ml) 73 (0, 0)) * (mpS ml Q.segs * (bigS segH Q.segs * R))) := ho.setCell (i := 1) (.int .i64 (Q.used - x.ws.length))
  have k3 := (StoreAt.c h1).2.2.2
  have h2 := h1.to (Q := bigS segH Q.segs * (mpS ml Q.segs * (blk s (.cells (stCells ⟨Q.quota, Q.used - x.ws.length, Q.next, Q.segs⟩ ml) 73 (0, 0)) * R))) (by ac_rfl)
  obtain ⟨n1, n2, e1, _, e3, h3⟩ := seg_front h2 hx
  have h4 := h3.right.to (Q := mpS ml Q.segs * (blk s (.cells (stCells ⟨Q.quota, Q.used - x.ws.length, Q.next, Q.segs⟩ ml) 73 (0, 0)) * (bigS segH (n1 ++ n2) * R))) (by ac_rfl)
  simp only [mpS, e1, List.map_append, List.map_cons] at h4
  obtain ⟨W, r, h5, _⟩ := run_delete_in (ty := 0) intLaw Tryd.underlying71 h4
  have r' : ∀ ty, (Builtin.delete_ #[71, 3] ty #[.map (some ml), .int .i64 u]).run Tryd.prog (w.setCell ⟨s, 1, none⟩ (.int .i64 (Q.used - x.ws.length))) = .ok (.tuple #[]) W := fun _ => r
  have HF : Holds W (storeH s ⟨Q.quota, Q.used - x.ws.length, Q.next, alDel Q.segs u⟩ * R) := by
    refine holds_store.2 ⟨ml, h5.to ?_⟩
    simp only [mpS, e3, List.map_append]
    ac_rfl
  have HFF := Lib.hid HF
  clear h1 h2 h3 h4 h5 ho HF r e1 e3 hv hg h hx c0 c2 c3
  go_enter Tryd.func16, Tryd.ntmps16
  go_wp2_with fail
  refine HG.out.mono ?_
  rintro e w' ⟨rfl, rfl⟩
  go_wp2
  go_ret
  exact ⟨rfl, HFF.out⟩
end

theorem holds_new {w0 w' : World} {P : HProp} {g : Nat} {o : Obj} (h : Holds w0 P) (hb : Below w0.heap.size w0 w') (hg : w'.heap[g]? = some o) (hge : w0.heap.size ≤ g) : Holds w' (blk g o * P) := by
  have h1 := h.below hb
  obtain ⟨hp, p, sb⟩ := h
  have hlt : ∀ b o', hp b = some o' → b < w0.heap.size := fun b o' x => by
    have := sb b o' x; rw [Array.getElem?_eq_some_iff] at this; exact this.1
  have he : envOf w' = envOf w0 := by simp only [envOf, hb.os, hb.tape, hb.output]
  refine ⟨join (fun j => if j = g then some o else none) hp, ⟨_, hp, ?_, rfl, rfl, he ▸ p⟩, ?_⟩
  · intro b
    by_cases e : b = g
    · refine .inr ?_
      cases x : hp b with
      | none => rfl
      | some o' => have := hlt b o' x; omega
    · exact .inl (by simp [e])
  · intro b o' x
    simp only [join] at x
    by_cases e : b = g
    · subst e; simp at x; subst x; exact hg
    · simp [e] at x
      rw [hb.block b (hlt b o' x)]; exact sb b o' x
end Go.Proofs.YtapkcgmjadpdiaaDoor

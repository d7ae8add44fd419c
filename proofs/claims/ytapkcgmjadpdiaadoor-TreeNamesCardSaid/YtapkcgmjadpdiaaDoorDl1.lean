/- tree.Delete: a branch goes, with all its names. -/
import Derived.Test.YtapkcgmjadpdiaaDoorNm3
import Derived.Test.YtapkcgmjadpdiaaDoorDl0
import Derived.Test.YtapkcgmjadpdiaaDoorTw6
import Derived.Test.YtapkcgmjadpdiaaDoorPq
namespace Go.Proofs.YtapkcgmjadpdiaaDoor
set_option linter.unusedVariables false
set_option linter.unusedSimpArgs false
open Go.RowKit Go.Maps Go.Sp Go.Proofs.YtapkcgmjadpdiaaDoorW.PrintLast
section
variable {w : World} {t : Nat} {C : TreeC} {R : HProp}

/-- What Delete leaves of a tree. -/
def TreeC.gone (C : TreeC) (d : Int) (nb : Nat) (c : Int) (x : Nod) : TreeC :=
  let D := C.without d nb (namesIn C d) c x
  { D with uids := if x.b.kind = 1 then alDel D.uids x.b.uid else D.uids, dirs := if x.b.kind = 2 then alDel D.dirs x.b.dir else D.dirs }

theorem find_name {S : List ByteArray} {d : Int} {nb : Nat} {c : Int} {x : Nod} {s : ByteArray} {m : Nat} (h : (C.without d nb S c x).find d s = some m) : ((d, s), m) ∈ C.ents := (List.mem_filter.1 (al_mem h)).1

theorem al_del_none {κ ν : Type} [DecidableEq κ] {l : List (κ × ν)} {k : κ} (h : alGet l k = none) : alDel l k = l := by
  induction l with
  | nil => rfl
  | cons p l ih =>
    obtain ⟨k2, v2⟩ := p
    by_cases e : k2 = k
    · simp [alGet, e] at h
    · simp only [alGet, if_neg e] at h
      simp [alDel, e, ih h]
theorem run_delete_al {κ ν : Type} [DecidableEq κ] {l : List (κ × ν)} {encK : κ → Value} {encV : ν → Value} {P : Program} {k e ty tt : TypeId} {b : Nat} (hi : ∀ a b, encK a = encK b → a = b) (K : Keyed P k) (ht : P.underlying tt = some (.map k e)) {u : κ} (hk : OkKey P k (encK u))
    (h : Holds w (mp P k b (l.map fun p => (encK p.1, encV p.2)) * R)) :
    ∃ W, (Builtin.delete_ #[tt, k] ty #[.map (some b), encK u]).run P w = .ok (.tuple #[]) W ∧ Holds W (mp P k b ((alDel l u).map fun p => (encK p.1, encV p.2)) * R) := by
  cases hg : alGet l u with
  | none =>
    obtain ⟨W, h1, h2, _⟩ := run_delete_out (ty := ty) K ht h hk ((mem_map_fst hi).2 (al_none.1 hg))
    exact ⟨W, h1, by rw [al_del_none hg]; exact h2⟩
  | some v =>
    obtain ⟨a, c, e1, _, e3, _⟩ := al_split hg
    rw [e1, List.map_append, List.map_cons] at h
    obtain ⟨W, h1, h2, _⟩ := run_delete_in (ty := ty) K ht h
    exact ⟨W, h1, by rw [e3, List.map_append]; exact h2⟩
theorem filter_len_mono {α : Type} {p q : α → Bool} (h : ∀ a, p a = true → q a = true) (l : List α) : (l.filter p).length ≤ (l.filter q).length := by
  induction l with
  | nil => simp
  | cons a l ih =>
    by_cases hp : p a = true
    · simp [List.filter_cons, hp, h a hp]; exact ih
    · by_cases hq : q a = true
      · simp [List.filter_cons, hp, hq]; omega
      · simp [List.filter_cons, hp, hq]; exact ih
theorem nmL_nodup {d : Int} : ∀ {l : List ((Int × ByteArray) × Nat)}, (l.map (·.1)).Nodup → (nmL l d).Nodup
  | [], _ => by simp [nmL]
  | p :: l, h => by
    have h2 := List.nodup_cons.1 h
    have ih := nmL_nodup (d := d) h2.2
    by_cases e : p.1.1 = d
    · simp only [nmL, List.filter_cons, e, decide_true, if_true, List.map_cons]
      refine List.nodup_cons.2 ⟨fun hm => ?_, ih⟩
      obtain ⟨q, hq, e2⟩ := List.mem_map.1 hm
      have hq2 := List.mem_filter.1 hq
      have e3 : q.1.1 = d := by simpa using hq2.2
      exact h2.1 (List.mem_map.2 ⟨q, hq2.1, by
        obtain ⟨⟨q1, q2⟩, q3⟩ := q
        obtain ⟨⟨p1, p2⟩, p3⟩ := p
        simp_all⟩)
    · simp only [nmL, List.filter_cons, e, decide_false, Bool.false_eq_true, if_false]
      exact ih
theorem hit_le_dir {S : List ByteArray} {d : Int} {nb : Nat} : (C.ents.filter (hit d nb S)).length ≤ (namesIn C d).length := by
  rw [namesIn, List.length_map]
  exact filter_len_mono (fun p hp => by simp [hit] at hp ⊢; exact hp.1.1) _
theorem hit_le_nb {S : List ByteArray} {d : Int} {nb : Nat} : (C.ents.filter (hit d nb S)).length ≤ (C.ents.filter fun p => p.2 = nb).length :=
  filter_len_mono (fun p hp => by simp [hit] at hp ⊢; exact hp.1.2) _
theorem without_perm {S T : List ByteArray} (h : S.Perm T) {d : Int} {nb : Nat} {c : Int} {x : Nod} : C.without d nb S c x = C.without d nb T c x := by
  have e : hit d nb S = hit d nb T := by
    funext p
    have : (S.any fun y => decide (y = p.1.2)) = T.any fun y => decide (y = p.1.2) := by
      rw [Bool.eq_iff_iff]; simp only [List.any_eq_true, h.mem_iff]
    simp only [hit, this]
  simp only [TreeC.without, e]

set_option maxRecDepth 100000 in
set_option maxHeartbeats 4000000 in
theorem delete_seg (h : Holds w (treeH t C * R)) {d : Int} {n : ByteArray} (hd : I64 d) (hn : n.size ≤ maxLen) {nb : Nat} {x : Nod} {c : Int} (hf : C.find d n = some nb) (hc : alGet C.dirs d = some c) (hx : alGet C.nodes nb = some x)
    (hnd : (C.ents.map (·.1)).Nodup) (hsz : ∀ p ∈ C.ents, p.1.2.size ≤ maxLen) (hin : ∀ p ∈ C.ents, ∃ y, alGet C.nodes p.2 = some y) (hlen : C.ents.length < 4294967296) (hcc : c = ((namesIn C d).length : Int)) (hmn : x.many = ((C.ents.filter fun p => p.2 = nb).length : Int)) (hk : x.b.kind = 1) (hu : I64 x.b.uid) (hac : x.b.acl.length < 4294967296) :
    Calls Tryd.prog 20 #[.pointer (some ⟨t, 0, none⟩), .int .i64 d, .string n] w fun e w' => ∃ v, e = .returned (.tuple #[x.b.agg v, .int .i64 0]) ∧ Holds w' (aclH v x.b.acl * (treeH t (C.gone d nb c x) * R)) := by
  have hA := (h.alloc (.cells (brnCells brn0 (.slice none 0 0)) 37)).to (star_left_comm _ _ _)
  obtain ⟨rl, rd, ru, ho⟩ := holds_tree.1 hA
  obtain ⟨n1, n2, av, _, _, hN⟩ := nod_front (C := C) (TreeAt.n ⟨ho⟩) hx
  have k0 := (nod_at hN).k0
  rw [hk] at k0
  have hg := get_any hA hd hn
  rw [hf] at hg
  simp only [brnCells, brn0, optP, ptrV] at hg k0 hA
  have HA := Lib.hid hA
  have HG := Lib.hid hg
  have HX := Lib.hid hx
  have HC := Lib.hid hc
  clear ho hN hA h hg hf hx hc
  go_enter Tryd.func20, Tryd.ntmps20
  go_wp2_with fail
  refine HG.out.mono ?_
  rintro e w' ⟨rfl, rfl⟩
  go_wp2_with fail
  refine start_ (n := 20) (S := fun w' => w'.cell? ⟨nb, 0, none⟩ = some (.int .i64 1)) (ds := []) #[false, false, false, false, false, false, false, false, false, false, false, false, false, false, false, false, false, false, false, false] (by kernel_rfl) rfl rfl (k0) (fun hHeld => ?_)
  refine pure_ (i := 0) (N := some 24) (v := ?_) (a' := ?_) #[true, false, false, false, false, false, false, false, false, false, false, false, false, false, false, false, false, false, false, false] rfl rfl (by kernel_rfl) (fun _ _ _ h => h) (Or.inl ⟨by rfl, ?_⟩) ?_ ?_
  rotate_left
  · intro w'
    go_simp
    with_reducible rfl
  rotate_left
  · simp only [Act.put, List.setIfInBounds_toArray, List.set_cons_zero, List.set_cons_succ, i64_w, i32_w]
    rfl
  refine pure_ (i := 1) (N := some 25) (v := ?_) (a' := ?_) #[true, true, false, false, false, false, false, false, false, false, false, false, false, false, false, false, false, false, false, false] rfl rfl (by kernel_rfl) (fun _ _ _ h => h) (Or.inl ⟨by rfl, ?_⟩) ?_ ?_
  rotate_left
  · intro w'
    go_simp
    with_reducible rfl
  rotate_left
  · simp only [Act.put, List.setIfInBounds_toArray, List.set_cons_zero, List.set_cons_succ, i64_w, i32_w]
    rfl
  refine pure_ (i := 2) (N := some 26) (v := ?_) (a' := ?_) #[true, true, true, false, false, false, false, false, false, false, false, false, false, false, false, false, false, false, false, false] rfl rfl (by kernel_rfl) (fun _ _ _ h => h) (Or.inl ⟨by rfl, ?_⟩) ?_ ?_
  rotate_left
  · intro w'
    go_simp
    with_reducible rfl
  rotate_left
  · simp only [Act.put, List.setIfInBounds_toArray, List.set_cons_zero, List.set_cons_succ, i64_w, i32_w]
    rfl
  refine pure_ (i := 3) (N := some 27) (v := ?_) (a' := ?_) #[true, true, true, true, false, false, false, false, false, false, false, false, false, false, false, false, false, false, false, false] rfl rfl (by kernel_rfl) (fun _ _ _ h => h) (Or.inl ⟨by rfl, ?_⟩) ?_ ?_
  rotate_left
  · intro w'
    go_simp
    with_reducible rfl
  rotate_left
  · simp only [Act.put, List.setIfInBounds_toArray, List.set_cons_zero, List.set_cons_succ, i64_w, i32_w]
    rfl
  refine take_ (i := 4) (N := some 28) (v := ?_) (a' := ?_) #[true, true, true, true, true, false, false, false, false, false, false, false, false, false, false, false, false, false, false, false] rfl rfl (by kernel_rfl) (fun _ _ _ h => h) (Or.inl ⟨by rfl, ?_⟩) hHeld ?_ ?_
  rotate_left
  · intro w' s0
    go_simp
    with_reducible rfl
  rotate_left
  · simp only [Act.put, List.setIfInBounds_toArray, List.set_cons_zero, List.set_cons_succ, i64_w, i32_w]
    rfl
  refine pure_ (i := 5) (N := some 29) (v := ?_) (a' := ?_) #[true, true, true, true, true, true, false, false, false, false, false, false, false, false, false, false, false, false, false, false] rfl rfl (by kernel_rfl) (fun _ _ _ h => h) (Or.inl ⟨by rfl, ?_⟩) ?_ ?_
  rotate_left
  · intro w'
    go_simp
    with_reducible rfl
  rotate_left
  · simp only [Act.put, List.setIfInBounds_toArray, List.set_cons_zero, List.set_cons_succ, i64_w, i32_w]
    rfl
  refine pure_ (i := 6) (N := some 30) (v := ?_) (a' := ?_) #[true, true, true, true, true, true, true, false, false, false, false, false, false, false, false, false, false, false, false, false] rfl rfl (by kernel_rfl) (fun _ _ _ h => h) (Or.inl ⟨by rfl, ?_⟩) ?_ ?_
  rotate_left
  · intro w'
    go_simp
    with_reducible rfl
  rotate_left
  · simp only [Act.put, List.setIfInBounds_toArray, List.set_cons_zero, List.set_cons_succ, i64_w, i32_w]
    rfl
  refine pure_ (i := 7) (N := some 31) (v := undef) (a' := ?_) #[true, true, true, true, true, true, true, true, false, false, false, false, false, false, false, false, false, false, false, false] rfl rfl (by kernel_rfl) (fun _ _ _ h => h) (Or.inr ⟨by rfl, rfl⟩) ?_ ?_
  rotate_left
  · simp only [Act.put, List.setIfInBounds_toArray, List.set_cons_zero, List.set_cons_succ, i64_w, i32_w]
    rfl
  refine pure_ (i := 8) (N := some 32) (v := undef) (a' := ?_) #[true, true, true, true, true, true, true, true, true, false, false, false, false, false, false, false, false, false, false, false] rfl rfl (by kernel_rfl) (fun _ _ _ h => h) (Or.inr ⟨by rfl, rfl⟩) ?_ ?_
  rotate_left
  · simp only [Act.put, List.setIfInBounds_toArray, List.set_cons_zero, List.set_cons_succ, i64_w, i32_w]
    rfl
  refine pure_ (i := 9) (N := some 33) (v := undef) (a' := ?_) #[true, true, true, true, true, true, true, true, true, true, false, false, false, false, false, false, false, false, false, false] rfl rfl (by kernel_rfl) (fun _ _ _ h => h) (Or.inr ⟨by rfl, rfl⟩) ?_ ?_
  rotate_left
  · simp only [Act.put, List.setIfInBounds_toArray, List.set_cons_zero, List.set_cons_succ, i64_w, i32_w]
    rfl
  refine pure_ (i := 10) (N := some 34) (v := undef) (a' := ?_) #[true, true, true, true, true, true, true, true, true, true, true, false, false, false, false, false, false, false, false, false] rfl rfl (by kernel_rfl) (fun _ _ _ h => h) (Or.inr ⟨by rfl, rfl⟩) ?_ ?_
  rotate_left
  · simp only [Act.put, List.setIfInBounds_toArray, List.set_cons_zero, List.set_cons_succ, i64_w, i32_w]
    rfl
  refine pure_ (i := 11) (N := some 35) (v := undef) (a' := ?_) #[true, true, true, true, true, true, true, true, true, true, true, true, false, false, false, false, false, false, false, false] rfl rfl (by kernel_rfl) (fun _ _ _ h => h) (Or.inr ⟨by rfl, rfl⟩) ?_ ?_
  rotate_left
  · simp only [Act.put, List.setIfInBounds_toArray, List.set_cons_zero, List.set_cons_succ, i64_w, i32_w]
    rfl
  refine pure_ (i := 12) (N := some 36) (v := undef) (a' := ?_) #[true, true, true, true, true, true, true, true, true, true, true, true, true, false, false, false, false, false, false, false] rfl rfl (by kernel_rfl) (fun _ _ _ h => h) (Or.inr ⟨by rfl, rfl⟩) ?_ ?_
  rotate_left
  · simp only [Act.put, List.setIfInBounds_toArray, List.set_cons_zero, List.set_cons_succ, i64_w, i32_w]
    rfl
  refine pure_ (i := 13) (N := some 37) (v := undef) (a' := ?_) #[true, true, true, true, true, true, true, true, true, true, true, true, true, true, false, false, false, false, false, false] rfl rfl (by kernel_rfl) (fun _ _ _ h => h) (Or.inr ⟨by rfl, rfl⟩) ?_ ?_
  rotate_left
  · simp only [Act.put, List.setIfInBounds_toArray, List.set_cons_zero, List.set_cons_succ, i64_w, i32_w]
    rfl
  refine pure_ (i := 14) (N := some 38) (v := undef) (a' := ?_) #[true, true, true, true, true, true, true, true, true, true, true, true, true, true, true, false, false, false, false, false] rfl rfl (by kernel_rfl) (fun _ _ _ h => h) (Or.inr ⟨by rfl, rfl⟩) ?_ ?_
  rotate_left
  · simp only [Act.put, List.setIfInBounds_toArray, List.set_cons_zero, List.set_cons_succ, i64_w, i32_w]
    rfl
  refine pure_ (i := 15) (N := some 39) (v := undef) (a' := ?_) #[true, true, true, true, true, true, true, true, true, true, true, true, true, true, true, true, false, false, false, false] rfl rfl (by kernel_rfl) (fun _ _ _ h => h) (Or.inr ⟨by rfl, rfl⟩) ?_ ?_
  rotate_left
  · simp only [Act.put, List.setIfInBounds_toArray, List.set_cons_zero, List.set_cons_succ, i64_w, i32_w]
    rfl
  refine pure_ (i := 16) (N := some 40) (v := undef) (a' := ?_) #[true, true, true, true, true, true, true, true, true, true, true, true, true, true, true, true, true, false, false, false] rfl rfl (by kernel_rfl) (fun _ _ _ h => h) (Or.inr ⟨by rfl, rfl⟩) ?_ ?_
  rotate_left
  · simp only [Act.put, List.setIfInBounds_toArray, List.set_cons_zero, List.set_cons_succ, i64_w, i32_w]
    rfl
  refine pure_ (i := 17) (N := some 41) (v := undef) (a' := ?_) #[true, true, true, true, true, true, true, true, true, true, true, true, true, true, true, true, true, true, false, false] rfl rfl (by kernel_rfl) (fun _ _ _ h => h) (Or.inr ⟨by rfl, rfl⟩) ?_ ?_
  rotate_left
  · simp only [Act.put, List.setIfInBounds_toArray, List.set_cons_zero, List.set_cons_succ, i64_w, i32_w]
    rfl
  refine pure_ (i := 18) (N := some 42) (v := ?_) (a' := ?_) #[true, true, true, true, true, true, true, true, true, true, true, true, true, true, true, true, true, true, true, false] rfl rfl (by kernel_rfl) (fun _ _ _ h => h) (Or.inl ⟨by rfl, ?_⟩) ?_ ?_
  rotate_left
  · intro w'
    go_simp
    with_reducible rfl
  rotate_left
  · simp only [Act.put, List.setIfInBounds_toArray, List.set_cons_zero, List.set_cons_succ, i64_w, i32_w]
    rfl
  refine pure_ (i := 19) (N := some 23) (v := ?_) (a' := ?_) #[true, true, true, true, true, true, true, true, true, true, true, true, true, true, true, true, true, true, true, true] rfl rfl (by kernel_rfl) (fun _ _ _ h => h) (Or.inl ⟨by rfl, ?_⟩) ?_ ?_
  rotate_left
  · intro w'
    go_simp
    with_reducible rfl
  rotate_left
  · simp only [Act.put, List.setIfInBounds_toArray, List.set_cons_zero, List.set_cons_succ, i64_w, i32_w]
    rfl
  refine done_ (by kernel_rfl) ?_

  go_wp2_with fail
  refine (names_ok HA.out.drew d hlen).mono ?_
  rintro e w1 ⟨v, L, rfl, hperm, h1⟩
  obtain ⟨a, cc, rfl, _⟩ := Holds.own_slice h1
  have hLn : L.length < 4294967296 := by
    have := hperm.length_eq
    have h2 : (namesIn C d).length ≤ C.ents.length := by rw [namesIn, List.length_map]; exact List.length_filter_le _ _
    omega
  have hLs : ∀ s ∈ L, s.size ≤ maxLen := by
    intro s hs
    have := hperm.mem_iff.1 hs
    obtain ⟨p, hp, rfl⟩ := List.mem_map.1 this
    exact hsz p (List.mem_filter.1 hp).1
  have hLd : L.Nodup := by
    exact hperm.nodup_iff.2 (nmL_nodup hnd)
  have HP := Lib.hid hperm
  have HLS := Lib.hid hLs
  have HLD := Lib.hid hLd
  have HND := Lib.hid hnd
  have HSZ := Lib.hid hsz
  have HIN := Lib.hid hin
  have HCC := Lib.hid hcc
  have HMN := Lib.hid hmn
  have h2 : Holds w1 (own 9 1 (.slice a L.length cc) L.length (L.map .string) * (treeH t (C.without d nb (L.take 0) c x) * (blk w.heap.size (.cells #[.int .i64 0, .int .i64 0, .int .i64 0, .string ⟨#[]⟩, .bool false, .slice none 0 0, .int .i64 0, .int .i64 0, .int .i64 0, .int .i64 0] 37) * R))) := by
    rw [List.take_zero, without_nil HC.out HX.out]; exact h1
  have HH2 := Lib.hid h2
  clear h1 h2 hperm hLs hLd hnd hsz hin hcc hmn HA HG
  go_wp2
  go_loopw [48] (fun i wr => ∃ k : Nat, k ≤ L.length ∧ i = .int .i64 k ∧ Holds wr (own 9 1 (.slice a L.length cc) L.length (L.map .string) * (treeH t (C.without d nb (L.take k) c x) * (blk w.heap.size (.cells #[.int .i64 0, .int .i64 0, .int .i64 0, .string ⟨#[]⟩, .bool false, .slice none 0 0, .int .i64 0, .int .i64 0, .int .i64 0, .int .i64 0] 37) * R)))) (fun i _ => L.length - (intOf i).toNat)
  case atStart => exact ⟨0, Nat.zero_le _, rfl, HH2.out⟩
  case round =>
    obtain ⟨k, hkl, rfl, hH⟩ := hrel
    by_cases hlt : k < L.length
    · obtain ⟨_, _, ⟨_, h0⟩ | ⟨b, o, c', hv, _, hcell⟩⟩ := Holds.reads hH
      · omega
      · simp only [Value.slice.injEq, true_and] at hv
        obtain ⟨rfl, rfl⟩ := hv
        have hck := hcell k (.string L[k]) (by simp [hlt])
        obtain ⟨s, hs⟩ : ∃ s, s = L[k] := ⟨_, rfl⟩
        rw [← hs] at hck
        have hss : s.size ≤ maxLen := hs ▸ HLS.out _ (List.getElem_mem _)
        have htk : L.take (k + 1) = L.take k ++ [s] := by rw [hs]; exact (List.take_append_getElem hlt).symm
        have hnot : s ∉ L.take k := by
          intro hm
          obtain ⟨j, hj, e⟩ := List.getElem_of_mem hm
          simp only [List.length_take] at hj
          rw [List.getElem_take] at e
          have := (List.getElem_inj (h₀ := by omega) (h₁ := hlt) HLD.out).1 (e.trans hs)
          omega
        have hgt := get_any (hH.to (star_left_comm _ _ _)) hd hss
        obtain ⟨fo, hfo⟩ : ∃ fo, (C.without d nb (L.take k) c x).find d s = fo := ⟨_, rfl⟩
        rw [hfo] at hgt
        have HFO := Lib.hid hfo
        have HH := Lib.hid hH
        have HGT := Lib.hid hgt
        have HTK := Lib.hid htk
        have HNOT := Lib.hid hnot
        have hb0 : (0 : Int) ≤ (k : Int) := Int.natCast_nonneg _
        have hb1 : (k : Int) < (L.length : Int) := by omega
        have hb2 : (L.length : Int) < 4294967296 := by omega
        clear hH hgt hcell hs htk hnot hfo
        go_wp2_with fail
        refine HGT.out.mono ?_
        rintro e w' ⟨rfl, rfl⟩
        by_cases hfb : fo = some nb
        · subst hfb
          have hj1 := hit_le_dir (C := C) (S := L.take k) (d := d) (nb := nb)
          have hj2 := hit_le_nb (C := C) (S := L.take k) (d := d) (nb := nb)
          have hj3 : (C.ents.filter fun p => p.2 = nb).length ≤ C.ents.length := List.length_filter_le _ _
          have hj4 := HP.out.length_eq
          obtain ⟨hw1, hw2⟩ := without_take HND.out HNOT.out HFO.out (c := c) (x := x)
          have hj5 := hit_le_dir (C := C) (S := L.take k ++ [s]) (d := d) (nb := nb)
          have hj6 := hit_le_nb (C := C) (S := L.take k ++ [s]) (d := d) (nb := nb)
          have hcc := HCC.out
          have hmn := HMN.out
          have ht := take_any (HH.out.to (star_left_comm _ _ _)) hd hss HFO.out (without_dir HC.out) ⟨by omega, by omega⟩ (without_nod HX.out) ⟨by simp only; omega, by simp only; omega⟩
          rw [hw1, ← HTK.out] at ht
          have HT := Lib.hid ht
          clear hw1 hw2 hj1 hj2 hj3 hj4 hj5 hj6 ht hcc hmn
          simp only [optP, ptrV]
          have hes := eqNode_same nb
          go_wp2_with fail
          refine HT.out.mono ?_
          rintro e w3 ⟨rfl, h3⟩
          have HH3 := Lib.hid (h3.to (star_left_comm _ _ _))
          clear h3
          go_wp2_with fail
          refine ⟨⟨k + 1, by omega, by simp, HH3.out⟩, by simp [intOf]; omega⟩
        · have hsk := without_skip HND.out HNOT.out (c := c) (x := x) (by rw [HFO.out]; exact hfb)
          rw [← HTK.out] at hsk
          have h3 := HH.out
          rw [← hsk] at h3
          have HH3 := Lib.hid h3
          clear h3 hsk
          cases fo with
          | none =>
            have heo := eqNode_none nb
            simp only [optP]
            go_wp2_with fail
            refine ⟨⟨k + 1, by omega, by simp, HH3.out⟩, by simp [intOf]; omega⟩
          | some m =>
            have hmb : ¬ m = nb := fun e => hfb (by rw [e])
            obtain ⟨y, hy⟩ := HIN.out _ (find_name HFO.out)
            have hy2 : alGet (C.without d nb (L.take k) c x).nodes m = some y := by
              simp only [TreeC.without, al_set, if_neg (Ne.symm hmb)]; exact hy
            obtain ⟨rl2, rd2, ru2, ho2⟩ := holds_tree.1 (HH.out.to (star_left_comm _ _ _))
            obtain ⟨_, _, av2, _, _, hN2⟩ := nod_front (C := C.without d nb (L.take k) c x) (TreeAt.n ⟨ho2⟩) hy2
            obtain ⟨_, _, av3, _, _, hN3⟩ := nod_front (C := C.without d nb (L.take k) c x) (TreeAt.n ⟨ho2⟩) (without_nod HX.out)
            have heo := eqNode_other hmb hN2.get hN3.get
            clear ho2 hN2 hN3 hy hy2
            simp only [optP, ptrV]
            go_wp2_with fail
            refine ⟨⟨k + 1, by omega, by simp, HH3.out⟩, by simp [intOf]; omega⟩
    · have hkk : k = L.length := by omega
      subst hkk
      rw [List.take_length] at hH
      rw [without_perm HP.out] at hH
      have hy := without_nod (C := C) (d := d) (S := namesIn C d) (c := c) HX.out
      have hH1 := hH.right
      obtain ⟨rl, rd, ru, ho⟩ := holds_tree.1 hH1
      obtain ⟨_, _, av2, _, _, hN⟩ := nod_front (C := C.without d nb (namesIn C d) c x) (TreeAt.n ⟨ho⟩) hy
      have k0 := (nod_at hN).k0
      have k1 := (nod_at hN).k1
      simp only [Nat.zero_add] at k1
      have c2 := TreeAt.c2 ⟨ho⟩
      rw [hk] at k0
      obtain ⟨W3, r3, h3⟩ := run_delete_al (ty := 0) (encK := intV) (encV := ptrV) intV_inj intLaw Tryd.underlying68 (okInt hu) (TreeAt.u ⟨ho⟩).drew
      have r3' : ∀ ty, (Builtin.delete_ #[68, 3] ty #[.map (some ru), .int .i64 x.b.uid]).run Tryd.prog wr.drew = .ok (.tuple #[]) W3 := fun _ => r3
      have h4 : Holds W3 (treeH t (C.gone d nb c x) * (blk w.heap.size (.cells #[.int .i64 0, .int .i64 0, .int .i64 0, .string ⟨#[]⟩, .bool false, .slice none 0 0, .int .i64 0, .int .i64 0, .int .i64 0, .int .i64 0] 37) * R)) := by
        refine holds_tree.2 ⟨rl, rd, ru, ?_⟩
        simp only [TreeC.gone, hk, if_true, show ¬ (1 : Int) = 2 from by omega, if_false]
        exact h3.to (by unfold mpU; ac_rfl)
      have hy4 : alGet (C.gone d nb c x).nodes nb = some { x with many := x.many - (C.ents.filter (hit d nb (namesIn C d))).length } := hy
      have hot := out_tree h4 hy4 hac
      have k04 : W3.cell? ⟨nb, 0, none⟩ = some (.int .i64 1) := by
        obtain ⟨_, _, _, ho4⟩ := holds_tree.1 h4
        obtain ⟨_, _, _, _, _, hN4⟩ := nod_front (C := C.gone d nb c x) (TreeAt.n ⟨ho4⟩) hy4
        have := (nod_at hN4).k0
        rw [← hk]; exact this
      have HOT := Lib.hid hot
      clear r3 h3 h4 hy4 hot hH hH1 ho hN hy
      go_wp2_with fail
      refine start_ (n := 10) (S := fun w' => w'.cell? ⟨t, 2, none⟩ = some (.map (some ru)) ∧ w'.cell? ⟨nb, 1, none⟩ = some (.int .i64 x.b.uid)) (ds := [9]) #[false, false, false, false, false, false, false, false, false, false] (by kernel_rfl) rfl rfl ⟨c2, k1⟩ (fun hHeld => ?_)
      refine pure_ (i := 0) (N := some 70) (v := ?_) (a' := ?_) #[true, false, false, false, false, false, false, false, false, false] rfl rfl (by kernel_rfl) (fun _ _ _ h => h) (Or.inl ⟨by rfl, ?_⟩) ?_ ?_
      rotate_left
      · intro w'
        go_simp
        with_reducible rfl
      rotate_left
      · simp only [Act.put, List.setIfInBounds_toArray, List.set_cons_zero, List.set_cons_succ, i64_w, i32_w]
        rfl
      refine pure_ (i := 1) (N := some 71) (v := ?_) (a' := ?_) #[true, true, false, false, false, false, false, false, false, false] rfl rfl (by kernel_rfl) (fun _ _ _ h => h) (Or.inl ⟨by rfl, ?_⟩) ?_ ?_
      rotate_left
      · intro w'
        go_simp
        with_reducible rfl
      rotate_left
      · simp only [Act.put, List.setIfInBounds_toArray, List.set_cons_zero, List.set_cons_succ, i64_w, i32_w]
        rfl
      refine pure_ (i := 2) (N := some 72) (v := ?_) (a' := ?_) #[true, true, true, false, false, false, false, false, false, false] rfl rfl (by kernel_rfl) (fun _ _ _ h => h) (Or.inl ⟨by rfl, ?_⟩) ?_ ?_
      rotate_left
      · intro w'
        go_simp
        with_reducible rfl
      rotate_left
      · simp only [Act.put, List.setIfInBounds_toArray, List.set_cons_zero, List.set_cons_succ, i64_w, i32_w]
        rfl
      refine pure_ (i := 4) (N := some 74) (v := ?_) (a' := ?_) #[true, true, true, false, true, false, false, false, false, false] rfl rfl (by kernel_rfl) (fun _ _ _ h => h) (Or.inl ⟨by rfl, ?_⟩) ?_ ?_
      rotate_left
      · intro w'
        go_simp
        with_reducible rfl
      rotate_left
      · simp only [Act.put, List.setIfInBounds_toArray, List.set_cons_zero, List.set_cons_succ, i64_w, i32_w]
        rfl
      refine pure_ (i := 5) (N := some 75) (v := ?_) (a' := ?_) #[true, true, true, false, true, true, false, false, false, false] rfl rfl (by kernel_rfl) (fun _ _ _ h => h) (Or.inl ⟨by rfl, ?_⟩) ?_ ?_
      rotate_left
      · intro w'
        go_simp
        with_reducible rfl
      rotate_left
      · simp only [Act.put, List.setIfInBounds_toArray, List.set_cons_zero, List.set_cons_succ, i64_w, i32_w]
        rfl
      refine pure_ (i := 6) (N := some 76) (v := ?_) (a' := ?_) #[true, true, true, false, true, true, true, false, false, false] rfl rfl (by kernel_rfl) (fun _ _ _ h => h) (Or.inl ⟨by rfl, ?_⟩) ?_ ?_
      rotate_left
      · intro w'
        go_simp
        with_reducible rfl
      rotate_left
      · simp only [Act.put, List.setIfInBounds_toArray, List.set_cons_zero, List.set_cons_succ, i64_w, i32_w]
        rfl
      refine pure_ (i := 7) (N := some 77) (v := ?_) (a' := ?_) #[true, true, true, false, true, true, true, true, false, false] rfl rfl (by kernel_rfl) (fun _ _ _ h => h) (Or.inl ⟨by rfl, ?_⟩) ?_ ?_
      rotate_left
      · intro w'
        go_simp
        with_reducible rfl
      rotate_left
      · simp only [Act.put, List.setIfInBounds_toArray, List.set_cons_zero, List.set_cons_succ, i64_w, i32_w]
        rfl
      refine take_ (i := 3) (N := some 73) (v := ?_) (a' := ?_) #[true, true, true, true, true, true, true, true, false, false] rfl rfl (by kernel_rfl) (fun _ _ _ h => h) (Or.inl ⟨by rfl, ?_⟩) hHeld ?_ ?_
      rotate_left
      · rintro w' ⟨s0, s1⟩
        go_simp
        with_reducible rfl
      rotate_left
      · simp only [Act.put, List.setIfInBounds_toArray, List.set_cons_zero, List.set_cons_succ, i64_w, i32_w]
        rfl
      refine take_ (i := 8) (N := some 78) (v := ?_) (a' := ?_) #[true, true, true, true, true, true, true, true, true, false] rfl rfl (by kernel_rfl) (fun _ _ _ h => h) (Or.inl ⟨by rfl, ?_⟩) hHeld ?_ ?_
      rotate_left
      · rintro w' ⟨s0, s1⟩
        go_simp
        with_reducible rfl
      rotate_left
      · simp only [Act.put, List.setIfInBounds_toArray, List.set_cons_zero, List.set_cons_succ, i64_w, i32_w]
        rfl
      refine last_ (i := 9) (N := none) #[true, true, true, true, true, true, true, true, true, true] rfl rfl (by kernel_rfl) (by decide) (fun K hK => ?_)
      refine value_ (w1 := ?_) (v := ?_) (by rfl) rfl ?_ ?_
      rotate_left 2
      · go_simp
        constructor
        · rfl
        · rfl
      refine hK.out _ _ ?_
      clear hK K
      refine done_ (by kernel_rfl) ?_

      go_wp2_with fail
      refine HOT.out.mono ?_
      rintro e w5 ⟨v5, rfl, h5, _⟩
      obtain ⟨a5, c5, rfl, _⟩ := Holds.own_slice h5
      have h6 := (h5.alloc (.cells (brnCells x.b (.slice a5 x.b.acl.length c5)) 37)).to (Q := blk w.heap.size (.cells #[.int .i64 0, .int .i64 0, .int .i64 0, .string ⟨#[]⟩, .bool false, .slice none 0 0, .int .i64 0, .int .i64 0, .int .i64 0, .int .i64 0] 37) * (blk w5.heap.size (.cells (brnCells x.b (.slice a5 x.b.acl.length c5)) 37) * (aclH (.slice a5 x.b.acl.length c5) x.b.acl * (treeH t (C.gone d nb c x) * R)))) (by ac_rfl)
      have hk6 := blk_cells h6
      have hq6 := blk_free h6
      have hk7 := blk_cells (h6.to (star_left_comm _ _ _))
      have HE := Lib.hid (holds_setBrn h6 rfl x.b (.slice a5 x.b.acl.length c5))
      clear h5 h6 HOT hk
      simp only [brnCells] at hk6 hq6 hk7 HE
      unfold Brn.agg
      go_wp2
      exact ret_branch (b := x.b) (i := 6) (j := 7) rfl rfl rfl rfl HE.out.get ⟨_, rfl, HE.out.right.right⟩
end
end Go.Proofs.YtapkcgmjadpdiaaDoor

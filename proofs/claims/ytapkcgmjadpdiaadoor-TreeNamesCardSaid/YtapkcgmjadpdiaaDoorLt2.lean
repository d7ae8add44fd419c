/- TreeNames: all names of a segment, walked. -/
import Derived.Test.YtapkcgmjadpdiaaDoorLt1
import Derived.Test.YtapkcgmjadpdiaaDoorNl0
import Derived.Test.YtapkcgmjadpdiaaDoorLw1
import Derived.Test.YtapkcgmjadpdiaaDoorFr
namespace Go.Proofs.YtapkcgmjadpdiaaDoor
set_option linter.unusedVariables false
set_option linter.unusedSimpArgs false
open Go.RowKit Go.Maps Go.Sp Go.Proofs.YtapkcgmjadpdiaaDoorW.PrintLast
section
variable {w : World} {R : HProp}

def brn7 : Brn := ⟨1, 7, 0, ⟨#[]⟩, false, [⟨⟨#[42]⟩, ⟨true, false, false⟩⟩], ⟨1, 2, 3, 0⟩⟩
def tree0 : TreeC := ⟨[], [(0, 0)], [], 0, []⟩
/-- What the tree is while the names `on` stand: f is the first of them. -/
def stands (on : List ByteArray) (f : ByteArray) (C : TreeC) : Prop :=
  (on = [] ∧ f = ⟨#[]⟩ ∧ C = tree0) ∨ ∃ nb r, on = f :: r ∧ f.data.toList ≠ [] ∧ C = namesC brn7 nb on

theorem signs_ne {s : ByteArray} {n : Nat} (hg : signsB s n = true) : (s.toList == []) = false := by
  rw [ByteArray.toList_eq]
  simp only [signsB, Bool.and_eq_true, decide_eq_true_eq] at hg
  cases hd : s.data.toList with
  | nil => have h1 := congrArg List.length hd; rw [Array.length_toList, List.length_nil] at h1; have h2 := hg.1.1; have h3 : s.data.size = s.size := rfl; omega
  | cons a b => rfl

set_option maxRecDepth 100000 in
set_option maxHeartbeats 4000000 in
theorem treeNames_ok (h : Holds w (old w * R)) (a : Option Addr) (cc : Nat) (l : List ByteArray) (hr : 0 < l.length → Reads w 1 (.slice a l.length cc) l.length (l.map .string)) (hs : ∀ s ∈ l, s.size ≤ maxLen) (hl : l.length ≤ maxLen) (pk : Int) (hk : 0 ≤ pk ∧ pk < 256) :
    Calls Tryd.prog 5 #[.slice a l.length cc, .int .u8 pk] w fun e w' => e = .returned (.bool true) ∧ Holds w' (old w * R) := by
  have HH := Lib.hid h
  have HR := Lib.hid hr
  have HS := Lib.hid hs
  obtain ⟨i, hi, hi2⟩ := Option.map_eq_some_iff.1 infoStr
  simp only [Prod.mk.injEq] at hi2
  obtain ⟨iz, isz, ib⟩ := hi2
  have HI := Lib.hid hi; have HIZ := Lib.hid iz; have HIS := Lib.hid isz; have HIB := Lib.hid ib
  clear hi iz isz ib
  clear h hr hs
  go_enter Tryd.func5, Tryd.ntmps5
  go_wp2_with fail
  refine (awake7_ok HH.out).mono ?_
  rintro e w0 ⟨rfl, h0⟩
  have H0 := Lib.hid h0
  clear h0
  have hl0 : (0 : Int) ≤ (l.length : Int) := by omega
  have hl1 : (l.length : Int) ≤ 9223372036854775807 := by unfold maxLen at hl; omega
  by_cases he : l.length = 0
  · have he' : ((l.length : Int) == 0) = true := by simpa using he
    go_wp2
    go_ret
    exact ⟨rfl, H0.out⟩
  have he' : ((l.length : Int) == 0) = false := by simpa using he
  by_cases h40 : 40 < l.length
  · have h4' : decide ((40 : Int) < (l.length : Int)) = true := by simp; omega
    go_wp2
    go_ret
    exact ⟨rfl, H0.out⟩
  have h4' : decide ((40 : Int) < (l.length : Int)) = false := by simp; omega
  go_wp2_with fail
  refine (tnew_any H0.out).mono ?_
  rintro e w1 ⟨t, rfl, h1⟩
  have H1 := Lib.hid h1
  clear h1 H0
  go_wp2_with fail
  have h2 := (H1.out.alloc (.cells #[.string ⟨#[42]⟩, .bool true, .bool false, .bool false] 45))
  have e2 : (w1.alloc (.cells #[.string ⟨#[42]⟩, .bool true, .bool false, .bool false] 45)).heap.size = w1.heap.size + 1 := by simp
  have h3 := h2.alloc (.cells #[.int .i64 1, .int .i64 7, .int .i64 0, .string ⟨#[]⟩, .bool false, .slice (some ⟨w1.heap.size, 0, none⟩) 1 1, .int .i64 1, .int .i64 2, .int .i64 3, .int .i64 0] 37)
  rw [e2] at h3
  have H3 := Lib.hid h3
  clear h2 h3 e2 H1
  go_loopw [7, 8, 9] (fun f o i wr => ∃ (k : Nat) (on : List ByteArray) (ff : ByteArray) (C : TreeC), k ≤ l.length ∧ i = .int .i64 k ∧ f = .string ff ∧ on.length ≤ k ∧ stands on ff C ∧ on.Nodup ∧ (∀ s ∈ on, s.size ≤ 100) ∧
      Holds wr (own 9 1 o on.length (on.map .string) * (treeH t C * (blk (w1.heap.size + 1) (.cells #[.int .i64 1, .int .i64 7, .int .i64 0, .string ⟨#[]⟩, .bool false, .slice (some ⟨w1.heap.size, 0, none⟩) 1 1, .int .i64 1, .int .i64 2, .int .i64 3, .int .i64 0] 37) * (blk w1.heap.size (.cells #[.string ⟨#[42]⟩, .bool true, .bool false, .bool false] 45) * (old w * R)))))) (fun _ _ i _ => l.length - (intOf i).toNat)
  case atStart => exact ⟨0, [], ⟨#[]⟩, tree0, Nat.zero_le _, rfl, rfl, Nat.zero_le _, .inl ⟨rfl, rfl, rfl⟩, List.nodup_nil, by simp, H3.out.to (by simp only [List.length_nil, List.map_nil, own_nil, emp_star]; unfold tree0; ac_rfl)⟩
  case round =>
    obtain ⟨k, on, ff, C, hkl, rfl, rfl, hok, hst, hnd, hsz, hH⟩ := hrel
    by_cases hlt : k < l.length
    · obtain ⟨_, _, ⟨_, h0⟩ | ⟨b, o2, c', hv, hb0, hcell⟩⟩ := HR.out (by omega)
      · omega
      · simp only [Value.slice.injEq, true_and] at hv
        obtain ⟨rfl, rfl⟩ := hv
        obtain ⟨s, hs⟩ : ∃ s, s = l[k] := ⟨_, rfl⟩
        have cellAt : ∀ (W : World) (P : HProp), Holds W (old w * P) → W.cell? ⟨b, o2 + k, none⟩ = some (.string s) := fun W P hW => by
          rw [hW.of_old.cell (p := ⟨b, o2 + k, none⟩) hb0, hs]
          exact hcell k (.string l[k]) (by simp [hlt])
        have hck := cellAt _ _ (hH.to (Q := old w * (own 9 1 _ on.length (on.map .string) * (treeH t C * (blk (w1.heap.size + 1) _ * (blk w1.heap.size _ * R))))) (by ac_rfl))
        have CELL := Lib.hid cellAt
        clear cellAt
        have hss : s.size ≤ maxLen := hs ▸ HS.out _ (List.getElem_mem _)
        have HH2 := Lib.hid hH
        have HNM := Lib.hid hs
        clear hH hcell hs
        have hb0 : (0 : Int) ≤ (k : Int) := by omega
        have hb1 : (k : Int) < (l.length : Int) := by omega
        have hb2 : (0 : Int) ≤ (s.size : Int) := by omega
        have hb3 : (s.size : Int) ≤ 9223372036854775807 := by unfold maxLen at hss; omega
        by_cases hbig : 100 < s.size
        · have hbig' : decide ((100 : Int) < (s.size : Int)) = true := by simp; omega
          go_wp2
          go_ret
          exact ⟨rfl, HH2.out.right.right.right.right⟩
        have hbig' : decide ((100 : Int) < (s.size : Int)) = false := by simp; omega
        rcases hst with ⟨rfl, rfl, rfl⟩ | ⟨nb, r, hon, hff, rfl⟩
        · have hW := HH2.out.drew
          have hT := hW.to (Q := treeH t tree0 * (own 9 1 _ ([] : List ByteArray).length (([] : List ByteArray).map .string) * (blk (w1.heap.size + 1) (.cells #[.int .i64 1, .int .i64 7, .int .i64 0, .string ⟨#[]⟩, .bool false, .slice (some ⟨w1.heap.size, 0, none⟩) 1 1, .int .i64 1, .int .i64 2, .int .i64 3, .int .i64 0] 37) * (blk w1.heap.size (.cells #[.string ⟨#[42]⟩, .bool true, .bool false, .bool false] 45) * (old w * R))))) (by ac_rfl)
          have hbc := blk_cells (HH2.out.to (Q := blk (w1.heap.size + 1) (.cells #[.int .i64 1, .int .i64 7, .int .i64 0, .string ⟨#[]⟩, .bool false, .slice (some ⟨w1.heap.size, 0, none⟩) 1 1, .int .i64 1, .int .i64 2, .int .i64 3, .int .i64 0] 37) * (own 9 1 _ ([] : List ByteArray).length (([] : List ByteArray).map .string) * (treeH t tree0 * (blk w1.heap.size (.cells #[.string ⟨#[42]⟩, .bool true, .bool false, .bool false] 45) * (old w * R))))) (by ac_rfl))
          have f0 := hbc 0; have f1 := hbc 1; have f2 := hbc 2; have f3 := hbc 3; have f4 := hbc 4; have f5 := hbc 5; have f6 := hbc 6; have f7 := hbc 7; have f8 := hbc 8; have f9 := hbc 9
          simp only [List.getElem?_toArray, List.getElem?_cons_zero, List.getElem?_cons_succ] at f0 f1 f2 f3 f4 f5 f6 f7 f8 f9
          have HT := Lib.hid hT
          clear hW hT hbc
          by_cases hg : signsB s 32 = true
          · have hrd : Reads wr.drew 4 (.slice (some ⟨w1.heap.size, 0, none⟩) 1 1) 1 (terms [⟨⟨#[42]⟩, ⟨true, false, false⟩⟩]) := reads_one (HH2.out.drew.f4)
            have hb := add_seg HT.out (d := 0) (I64.of (by omega)) hss hg (c := 0) rfl (by omega) rfl brn7 (some ⟨w1.heap.size, 0, none⟩) 1 rfl (by simp [brn7]) (listB_one userB_star) (by decide) rfl hrd (by simp only [brn7]; intro t ht; simp at ht; subst ht; exact size1 _) (by simp [brn7])
            have hss0 : (s.toList == []) = false := signs_ne hg
            have HG := Lib.hid hg
            have HS0 := Lib.hid hss0
            simp only [brn7, Brn.agg, List.length_cons, List.length_nil] at hb
            have HADD := Lib.hid hb
            clear hb hg hss0 hrd
            go_wp2_with fail
            refine start_ (n := 11) (S := fun w' => w' = wr.drew ∧ w'.cell? ⟨b, o2 + k, none⟩ = some (.string s) ∧ w'.cell? ⟨w1.heap.size + 1, 0, none⟩ = some (.int .i64 1) ∧ w'.cell? ⟨w1.heap.size + 1, 1, none⟩ = some (.int .i64 7) ∧ w'.cell? ⟨w1.heap.size + 1, 2, none⟩ = some (.int .i64 0) ∧ w'.cell? ⟨w1.heap.size + 1, 3, none⟩ = some (.string ⟨#[]⟩) ∧ w'.cell? ⟨w1.heap.size + 1, 4, none⟩ = some (.bool false) ∧ w'.cell? ⟨w1.heap.size + 1, 5, none⟩ = some (.slice (some ⟨w1.heap.size, 0, none⟩) 1 1) ∧ w'.cell? ⟨w1.heap.size + 1, 6, none⟩ = some (.int .i64 1) ∧ w'.cell? ⟨w1.heap.size + 1, 7, none⟩ = some (.int .i64 2) ∧ w'.cell? ⟨w1.heap.size + 1, 8, none⟩ = some (.int .i64 3) ∧ w'.cell? ⟨w1.heap.size + 1, 9, none⟩ = some (.int .i64 0)) (ds := [6]) #[false, false, false, false, false, false, false, false, false, false, false] (by kernel_rfl) rfl rfl ⟨rfl, hck, f0, f1, f2, f3, f4, f5, f6, f7, f8, f9⟩ (fun hHeld => ?_)
            refine pure_ (i := 0) (N := some 51) (v := ?_) (a' := ?_) #[true, false, false, false, false, false, false, false, false, false, false] rfl rfl (by kernel_rfl) (fun _ _ _ h => h) (Or.inl ⟨by rfl, ?_⟩) ?_ ?_
            rotate_left
            · intro w'
              go_simp
              with_reducible rfl
            rotate_left
            · simp only [Act.put, List.setIfInBounds_toArray, List.set_cons_zero, List.set_cons_succ, i64_w, i32_w]
              rfl
            refine pure_ (i := 1) (N := some 52) (v := ?_) (a' := ?_) #[true, true, false, false, false, false, false, false, false, false, false] rfl rfl (by kernel_rfl) (fun _ _ _ h => h) (Or.inl ⟨by rfl, ?_⟩) ?_ ?_
            rotate_left
            · intro w'
              go_simp
              with_reducible rfl
            rotate_left
            · simp only [Act.put, List.setIfInBounds_toArray, List.set_cons_zero, List.set_cons_succ, i64_w, i32_w]
              rfl
            refine pure_ (i := 2) (N := some 53) (v := ?_) (a' := ?_) #[true, true, true, false, false, false, false, false, false, false, false] rfl rfl (by kernel_rfl) (fun _ _ _ h => h) (Or.inl ⟨by rfl, ?_⟩) ?_ ?_
            rotate_left
            · intro w'
              go_simp
              with_reducible rfl
            rotate_left
            · simp only [Act.put, List.setIfInBounds_toArray, List.set_cons_zero, List.set_cons_succ, i64_w, i32_w]
              rfl
            refine pure_ (i := 3) (N := some 54) (v := ?_) (a' := ?_) #[true, true, true, true, false, false, false, false, false, false, false] rfl rfl (by kernel_rfl) (fun _ _ _ h => h) (Or.inl ⟨by rfl, ?_⟩) ?_ ?_
            rotate_left
            · intro w'
              go_simp
              with_reducible rfl
            rotate_left
            · simp only [Act.put, List.setIfInBounds_toArray, List.set_cons_zero, List.set_cons_succ, i64_w, i32_w]
              rfl
            refine take_ (i := 4) (N := some 55) (v := ?_) (a' := ?_) #[true, true, true, true, true, false, false, false, false, false, false] rfl rfl (by kernel_rfl) (fun _ _ _ h => h) (Or.inl ⟨by rfl, ?_⟩) hHeld ?_ ?_
            rotate_left
            · rintro w' ⟨s0, s1, s2, s3, s4, s5, s6, s7, s8, s9, s10, s11⟩
              go_simp
              with_reducible rfl
            rotate_left
            · simp only [Act.put, List.setIfInBounds_toArray, List.set_cons_zero, List.set_cons_succ, i64_w, i32_w]
              rfl
            refine take_ (i := 5) (N := some 56) (v := ?_) (a' := ?_) #[true, true, true, true, true, true, false, false, false, false, false] rfl rfl (by kernel_rfl) (fun _ _ _ h => h) (Or.inl ⟨by rfl, ?_⟩) hHeld ?_ ?_
            rotate_left
            · rintro w' ⟨s0, s1, s2, s3, s4, s5, s6, s7, s8, s9, s10, s11⟩
              go_simp
              with_reducible rfl
            rotate_left
            · simp only [Act.put, List.setIfInBounds_toArray, List.set_cons_zero, List.set_cons_succ, i64_w, i32_w]
              rfl
            refine last_ (i := 6) (N := some 57) #[true, true, true, true, true, true, true, false, false, false, false] rfl rfl (by kernel_rfl) (by decide) (fun K hK => ?_)
            refine goes_ Tryd.func10 (by kernel_rfl) rfl #[.pointer (some ⟨t, 0, none⟩), .int .i64 0, .string s, .agg #[.int .i64 1, .int .i64 7, .int .i64 0, .string ⟨#[]⟩, .bool false, .slice (some ⟨w1.heap.size, 0, none⟩) 1 1, .int .i64 1, .int .i64 2, .int .i64 3, .int .i64 0]] (by rfl) rfl rfl (by simp only [List.map_toArray, List.map_cons, List.map_nil]; rfl) ?_
            with_reducible refine (HADD.out).mono ?_
            rintro e w3 ⟨nb, rfl, h3, hfr⟩
            refine ⟨_, rfl, ?_⟩
            refine hK.out _ _ ?_
            clear hK K
            refine norm_ (a' := ?_) ?_ ?_
            rotate_left
            · show Act.put _ (some 57) _ = _
              simp only [Act.put, List.setIfInBounds_toArray, List.set_cons_zero, List.set_cons_succ, i64_w, i32_w]
              rfl
            refine pure_ (i := 7) (N := some 50) (v := ?_) (a' := ?_) #[true, true, true, true, true, true, true, true, false, false, false] rfl rfl (by kernel_rfl) (fun _ _ _ h => h) (Or.inl ⟨by rfl, ?_⟩) ?_ ?_
            rotate_left
            · intro w'
              go_simp
              with_reducible rfl
            rotate_left
            · simp only [Act.put, List.setIfInBounds_toArray, List.set_cons_zero, List.set_cons_succ, i64_w, i32_w]
              rfl
            refine pure_ (i := 8) (N := some 58) (v := ?_) (a' := ?_) #[true, true, true, true, true, true, true, true, true, false, false] rfl rfl (by kernel_rfl) (fun _ _ _ h => h) (Or.inl ⟨by rfl, ?_⟩) ?_ ?_
            rotate_left
            · intro w'
              go_simp
              with_reducible rfl
            rotate_left
            · simp only [Act.put, List.setIfInBounds_toArray, List.set_cons_zero, List.set_cons_succ, i64_w, i32_w]
              rfl
            refine pure_ (i := 9) (N := some 59) (v := ?_) (a' := ?_) #[true, true, true, true, true, true, true, true, true, true, false] rfl rfl (by kernel_rfl) (fun _ _ _ h => h) (Or.inl ⟨by rfl, ?_⟩) ?_ ?_
            rotate_left
            · intro w'
              go_simp
              with_reducible rfl
            rotate_left
            · simp only [Act.put, List.setIfInBounds_toArray, List.set_cons_zero, List.set_cons_succ, i64_w, i32_w]
              rfl
            refine pure_ (i := 10) (N := some 10) (v := ?_) (a' := ?_) #[true, true, true, true, true, true, true, true, true, true, true] rfl rfl (by kernel_rfl) (fun _ _ _ h => h) (Or.inl ⟨by rfl, ?_⟩) ?_ ?_
            rotate_left
            · intro w'
              go_simp
              with_reducible rfl
            rotate_left
            · simp only [Act.put, List.setIfInBounds_toArray, List.set_cons_zero, List.set_cons_succ, i64_w, i32_w]
              rfl
            refine done_ (by kernel_rfl) ?_

            rw [show tree0.added 0 s (segOf ⟨1, 7, 0, ⟨#[]⟩, false, [⟨⟨#[42]⟩, ⟨true, false, false⟩⟩], ⟨1, 2, 3, 0⟩⟩) nb 0 = namesC brn7 nb [s] from namesC_one (b := brn7) rfl] at h3
            have ha := h3.f2.alloc (.cells #[.string s] 9)
            have hg2 := ha.get
            have hck3 := CELL.out _ _ h3.d4
            have hcell : (w3.alloc (.cells #[.string s] 9)).cell? ⟨w3.heap.size, 0, none⟩ = some (.string s) := by simp only [World.cell?, hg2]; rfl
            have ha2 := ha.f2
            simp only [List.length_nil, List.map_nil] at ha2
            have HG2 := Lib.hid ha2
            clear ha2
            have HCELL := Lib.hid hcell
            clear h3 ha hg2 hcell HADD HT HH2 f0 f1 f2 f3 f4 f5 f6 f7 f8 f9 hck
            clear hfr
            go_wp2_with (at_builtin; refine wpList_append_sep rfl _ _ 55 rfl Tryd.underlying55 HI.out HIZ.out HIS.out HIB.out rfl (by omega) rfl HG2.out ⟨w3.heap.size, 0, none⟩ 1 1 [.string s] rfl rfl (by
              intro j u hj
              match j, hj with
              | 0, hj => simp at hj; subst hj; exact HCELL.out) (by intro u hu; simp at hu; subst hu; rfl) (by unfold maxLen; omega) (by omega) ?_; intro v3 W3 hW3 hle hnn; have hckW := CELL.out _ _ hW3.out.d5)
            refine ⟨⟨k + 1, [s], s, namesC brn7 nb [s], by omega, by simp, rfl, by simp, .inr ⟨nb, [], rfl, ?_, rfl⟩, by simp, ?_, ?_⟩, by simp [intOf]; omega⟩
            · have hs0 := HS0.out
              rw [ByteArray.toList_eq] at hs0
              simpa using hs0
            · intro u hu; simp at hu; subst hu; omega
            · exact hW3.out.f2.right
          · have hb := add_bad HT.out (d := 0) (I64.of (by omega)) (c := 0) rfl hss (by simpa using hg) brn7 (.slice (some ⟨w1.heap.size, 0, none⟩) 1 1)
            simp only [brn7, Brn.agg] at hb
            have HADD := Lib.hid hb
            clear hb
            go_wp2_with fail
            refine start_ (n := 11) (S := fun w' => w' = wr.drew ∧ w'.cell? ⟨b, o2 + k, none⟩ = some (.string s) ∧ w'.cell? ⟨w1.heap.size + 1, 0, none⟩ = some (.int .i64 1) ∧ w'.cell? ⟨w1.heap.size + 1, 1, none⟩ = some (.int .i64 7) ∧ w'.cell? ⟨w1.heap.size + 1, 2, none⟩ = some (.int .i64 0) ∧ w'.cell? ⟨w1.heap.size + 1, 3, none⟩ = some (.string ⟨#[]⟩) ∧ w'.cell? ⟨w1.heap.size + 1, 4, none⟩ = some (.bool false) ∧ w'.cell? ⟨w1.heap.size + 1, 5, none⟩ = some (.slice (some ⟨w1.heap.size, 0, none⟩) 1 1) ∧ w'.cell? ⟨w1.heap.size + 1, 6, none⟩ = some (.int .i64 1) ∧ w'.cell? ⟨w1.heap.size + 1, 7, none⟩ = some (.int .i64 2) ∧ w'.cell? ⟨w1.heap.size + 1, 8, none⟩ = some (.int .i64 3) ∧ w'.cell? ⟨w1.heap.size + 1, 9, none⟩ = some (.int .i64 0)) (ds := [6]) #[false, false, false, false, false, false, false, false, false, false, false] (by kernel_rfl) rfl rfl ⟨rfl, hck, f0, f1, f2, f3, f4, f5, f6, f7, f8, f9⟩ (fun hHeld => ?_)
            refine pure_ (i := 0) (N := some 51) (v := ?_) (a' := ?_) #[true, false, false, false, false, false, false, false, false, false, false] rfl rfl (by kernel_rfl) (fun _ _ _ h => h) (Or.inl ⟨by rfl, ?_⟩) ?_ ?_
            rotate_left
            · intro w'
              go_simp
              with_reducible rfl
            rotate_left
            · simp only [Act.put, List.setIfInBounds_toArray, List.set_cons_zero, List.set_cons_succ, i64_w, i32_w]
              rfl
            refine pure_ (i := 1) (N := some 52) (v := ?_) (a' := ?_) #[true, true, false, false, false, false, false, false, false, false, false] rfl rfl (by kernel_rfl) (fun _ _ _ h => h) (Or.inl ⟨by rfl, ?_⟩) ?_ ?_
            rotate_left
            · intro w'
              go_simp
              with_reducible rfl
            rotate_left
            · simp only [Act.put, List.setIfInBounds_toArray, List.set_cons_zero, List.set_cons_succ, i64_w, i32_w]
              rfl
            refine pure_ (i := 2) (N := some 53) (v := ?_) (a' := ?_) #[true, true, true, false, false, false, false, false, false, false, false] rfl rfl (by kernel_rfl) (fun _ _ _ h => h) (Or.inl ⟨by rfl, ?_⟩) ?_ ?_
            rotate_left
            · intro w'
              go_simp
              with_reducible rfl
            rotate_left
            · simp only [Act.put, List.setIfInBounds_toArray, List.set_cons_zero, List.set_cons_succ, i64_w, i32_w]
              rfl
            refine pure_ (i := 3) (N := some 54) (v := ?_) (a' := ?_) #[true, true, true, true, false, false, false, false, false, false, false] rfl rfl (by kernel_rfl) (fun _ _ _ h => h) (Or.inl ⟨by rfl, ?_⟩) ?_ ?_
            rotate_left
            · intro w'
              go_simp
              with_reducible rfl
            rotate_left
            · simp only [Act.put, List.setIfInBounds_toArray, List.set_cons_zero, List.set_cons_succ, i64_w, i32_w]
              rfl
            refine take_ (i := 4) (N := some 55) (v := ?_) (a' := ?_) #[true, true, true, true, true, false, false, false, false, false, false] rfl rfl (by kernel_rfl) (fun _ _ _ h => h) (Or.inl ⟨by rfl, ?_⟩) hHeld ?_ ?_
            rotate_left
            · rintro w' ⟨s0, s1, s2, s3, s4, s5, s6, s7, s8, s9, s10, s11⟩
              go_simp
              with_reducible rfl
            rotate_left
            · simp only [Act.put, List.setIfInBounds_toArray, List.set_cons_zero, List.set_cons_succ, i64_w, i32_w]
              rfl
            refine take_ (i := 5) (N := some 56) (v := ?_) (a' := ?_) #[true, true, true, true, true, true, false, false, false, false, false] rfl rfl (by kernel_rfl) (fun _ _ _ h => h) (Or.inl ⟨by rfl, ?_⟩) hHeld ?_ ?_
            rotate_left
            · rintro w' ⟨s0, s1, s2, s3, s4, s5, s6, s7, s8, s9, s10, s11⟩
              go_simp
              with_reducible rfl
            rotate_left
            · simp only [Act.put, List.setIfInBounds_toArray, List.set_cons_zero, List.set_cons_succ, i64_w, i32_w]
              rfl
            refine last_ (i := 6) (N := some 57) #[true, true, true, true, true, true, true, false, false, false, false] rfl rfl (by kernel_rfl) (by decide) (fun K hK => ?_)
            refine goes_ Tryd.func10 (by kernel_rfl) rfl #[.pointer (some ⟨t, 0, none⟩), .int .i64 0, .string s, .agg #[.int .i64 1, .int .i64 7, .int .i64 0, .string ⟨#[]⟩, .bool false, .slice (some ⟨w1.heap.size, 0, none⟩) 1 1, .int .i64 1, .int .i64 2, .int .i64 3, .int .i64 0]] (by rfl) rfl rfl (by simp only [List.map_toArray, List.map_cons, List.map_nil]; rfl) ?_
            with_reducible refine (HADD.out).mono ?_
            rintro e w3 ⟨rfl, h3⟩
            refine ⟨_, rfl, ?_⟩
            refine hK.out _ _ ?_
            clear hK K
            refine norm_ (a' := ?_) ?_ ?_
            rotate_left
            · show Act.put _ (some 57) _ = _
              simp only [Act.put, List.setIfInBounds_toArray, List.set_cons_zero, List.set_cons_succ, i64_w, i32_w]
              rfl
            refine pure_ (i := 7) (N := some 50) (v := ?_) (a' := ?_) #[true, true, true, true, true, true, true, true, false, false, false] rfl rfl (by kernel_rfl) (fun _ _ _ h => h) (Or.inl ⟨by rfl, ?_⟩) ?_ ?_
            rotate_left
            · intro w'
              go_simp
              with_reducible rfl
            rotate_left
            · simp only [Act.put, List.setIfInBounds_toArray, List.set_cons_zero, List.set_cons_succ, i64_w, i32_w]
              rfl
            refine pure_ (i := 8) (N := some 58) (v := ?_) (a' := ?_) #[true, true, true, true, true, true, true, true, true, false, false] rfl rfl (by kernel_rfl) (fun _ _ _ h => h) (Or.inl ⟨by rfl, ?_⟩) ?_ ?_
            rotate_left
            · intro w'
              go_simp
              with_reducible rfl
            rotate_left
            · simp only [Act.put, List.setIfInBounds_toArray, List.set_cons_zero, List.set_cons_succ, i64_w, i32_w]
              rfl
            refine pure_ (i := 9) (N := some 59) (v := ?_) (a' := ?_) #[true, true, true, true, true, true, true, true, true, true, false] rfl rfl (by kernel_rfl) (fun _ _ _ h => h) (Or.inl ⟨by rfl, ?_⟩) ?_ ?_
            rotate_left
            · intro w'
              go_simp
              with_reducible rfl
            rotate_left
            · simp only [Act.put, List.setIfInBounds_toArray, List.set_cons_zero, List.set_cons_succ, i64_w, i32_w]
              rfl
            refine pure_ (i := 10) (N := some 10) (v := ?_) (a' := ?_) #[true, true, true, true, true, true, true, true, true, true, true] rfl rfl (by kernel_rfl) (fun _ _ _ h => h) (Or.inl ⟨by rfl, ?_⟩) ?_ ?_
            rotate_left
            · intro w'
              go_simp
              with_reducible rfl
            rotate_left
            · simp only [Act.put, List.setIfInBounds_toArray, List.set_cons_zero, List.set_cons_succ, i64_w, i32_w]
              rfl
            refine done_ (by kernel_rfl) ?_

            have h4 := h3.to (Q := own 9 1 _ ([] : List ByteArray).length (([] : List ByteArray).map .string) * (treeH t tree0 * (blk (w1.heap.size + 1) (.cells #[.int .i64 1, .int .i64 7, .int .i64 0, .string ⟨#[]⟩, .bool false, .slice (some ⟨w1.heap.size, 0, none⟩) 1 1, .int .i64 1, .int .i64 2, .int .i64 3, .int .i64 0] 37) * (blk w1.heap.size (.cells #[.string ⟨#[42]⟩, .bool true, .bool false, .bool false] 45) * (old w * R))))) (by ac_rfl)
            have HH4 := Lib.hid h4
            clear h3 h4 HADD HT HH2 f0 f1 f2 f3 f4 f5 f6 f7 f8 f9 hck
            go_wp2_with fail
            exact ⟨⟨k + 1, [], ⟨#[]⟩, tree0, by omega, by simp, rfl, by simp, .inl ⟨rfl, rfl, rfl⟩, List.nodup_nil, by simp, HH4.out⟩, by simp [intOf]; omega⟩
        · have hfe : (ff.toList == []) = false := by rw [ByteArray.toList_eq]; simpa using hff
          have hin : ff ∈ on := by rw [hon]; exact List.mem_cons_self
          have hfs : ff.size ≤ maxLen := Nat.le_trans (hsz ff hin) (by unfold maxLen; omega)
          have hlen : on.length < 4294967296 := by omega
          have hT := HH2.out.f2
          have HON := Lib.hid hon
          have HSZ := Lib.hid hsz
          have HND := Lib.hid hnd
          have HFE := Lib.hid hff
          clear hon hsz hnd hff
          by_cases hg : signsB s 32 = true
          · by_cases hm : s ∈ on
            · have hb := name_there hT (d := 0) (I64.of (by omega)) hfs (nb := nb) (namesC_some hin) hss hg (mb := nb) (namesC_some hm)
              have HB := Lib.hid hb
              clear hb hT hm hg
              go_wp2_with fail
              refine HB.out.mono ?_
              rintro e w3 ⟨rfl, h3⟩
              have HH3 := Lib.hid h3.b2
              clear h3 HB
              go_wp2_with fail
              exact ⟨⟨k + 1, on, ff, _, by omega, by simp, rfl, by omega, .inr ⟨nb, r, HON.out, HFE.out, rfl⟩, HND.out, HSZ.out, HH3.out⟩, by simp [intOf]; omega⟩
            · have hb := name_ok hT (d := 0) (I64.of (by omega)) hfs (nb := nb) (namesC_some hin) hss hg (namesC_no hm) (c := (on.length : Int)) rfl (by omega) (x := ⟨brn7, 0, (on.length : Int)⟩) (by simp [namesC, alGet]) (by simp only; omega)
              rw [namesC_put] at hb
              have HB := Lib.hid hb
              have HM := Lib.hid hm
              clear hb hT hm hg
              go_wp2_with fail
              refine HB.out.mono ?_
              rintro e w3 ⟨rfl, h3⟩
              have ha := h3.f2.alloc (.cells #[.string s] 9)
              have hg2 := ha.get
              have hck3 := CELL.out _ _ h3.d4
              have hcell : (w3.alloc (.cells #[.string s] 9)).cell? ⟨w3.heap.size, 0, none⟩ = some (.string s) := by simp only [World.cell?, hg2]; rfl
              have HG2 := Lib.hid ha.f2
              have HCELL := Lib.hid hcell
              clear h3 ha hg2 hcell HB HH2 hck
              go_wp2_with (at_builtin; refine wpList_append_sep rfl _ _ 55 rfl Tryd.underlying55 HI.out HIZ.out HIS.out HIB.out rfl (by omega) rfl HG2.out ⟨w3.heap.size, 0, none⟩ 1 1 [.string s] rfl rfl (by
                intro j u hj
                match j, hj with
                | 0, hj => simp at hj; subst hj; exact HCELL.out) (by intro u hu; simp at hu; subst hu; rfl) (by unfold maxLen; omega) (by omega) ?_; intro v3 W3 hW3 hle hnn; have hckW := CELL.out _ _ hW3.out.d5)
              refine ⟨⟨k + 1, on ++ [s], ff, namesC brn7 nb (on ++ [s]), by omega, by simp, rfl, by simp; omega, .inr ⟨nb, r ++ [s], by rw [HON.out]; rfl, HFE.out, rfl⟩, ?_, ?_, ?_⟩, by simp [intOf]; omega⟩
              · rw [List.nodup_append]
                exact ⟨HND.out, by simp, by intro a ha b hb e; simp at hb; subst hb; subst e; exact HM.out ha⟩
              · intro u hu
                rcases List.mem_append.1 hu with hu | hu
                · exact HSZ.out u hu
                · simp at hu; subst hu; omega
              · have := hW3.out.f2.right
                simpa only [List.length_append, List.length_cons, List.length_nil, List.map_append, List.map_cons, List.map_nil, Nat.zero_add] using this
          · have hb := name_bad hT (d := 0) (I64.of (by omega)) hfs (nb := nb) (namesC_some hin) hss (by simpa using hg)
            have HB := Lib.hid hb
            clear hb hT hg
            go_wp2_with fail
            refine HB.out.mono ?_
            rintro e w3 ⟨rfl, h3⟩
            have HH3 := Lib.hid h3.b2
            clear h3 HB
            go_wp2_with fail
            exact ⟨⟨k + 1, on, ff, _, by omega, by simp, rfl, by omega, .inr ⟨nb, r, HON.out, HFE.out, rfl⟩, HND.out, HSZ.out, HH3.out⟩, by simp [intOf]; omega⟩
    · have hkk : k = l.length := by omega
      subst hkk
      obtain ⟨a3, c3, rfl, _⟩ := Holds.own_slice hH
      have hdir : alGet C.dirs 0 = some (on.length : Int) := by
        rcases hst with ⟨rfl, _, rfl⟩ | ⟨nb, r, _, _, rfl⟩ <;> rfl
      have hlen := len_any hH.f2 (d := 0) (I64.of (by omega))
      rw [hdir] at hlen
      simp only [Option.getD_some] at hlen
      have HL := Lib.hid hlen
      have HH2 := Lib.hid hH
      have HND := Lib.hid hnd
      have HSZ := Lib.hid hsz
      clear hlen hH hdir hnd hsz
      go_wp2_with fail
      refine HL.out.mono ?_
      rintro e w' ⟨rfl, rfl⟩
      rcases hst with ⟨rfl, rfl, rfl⟩ | ⟨nb, r, hon, hff, rfl⟩
      · go_wp2
        go_ret
        exact ⟨rfl, HH2.out.d4⟩
      have hon0 : ((on.length : Int) == 0) = false := by rw [hon]; simp; omega
      have hon1 : 0 < on.length := by rw [hon]; simp
      have HON := Lib.hid hon
      have HFF := Lib.hid hff
      clear hon hff HL
      go_wp2_with fail
      go_loopw [11] (fun i2 wr2 => ∃ k2 : Nat, k2 ≤ on.length ∧ i2 = .int .i64 k2 ∧ Holds wr2 (own 9 1 (.slice a3 on.length c3) on.length (on.map .string) * (treeH t (namesC brn7 nb on) * (blk (w1.heap.size + 1) (.cells #[.int .i64 1, .int .i64 7, .int .i64 0, .string ⟨#[]⟩, .bool false, .slice (some ⟨w1.heap.size, 0, none⟩) 1 1, .int .i64 1, .int .i64 2, .int .i64 3, .int .i64 0] 37) * (blk w1.heap.size (.cells #[.string ⟨#[42]⟩, .bool true, .bool false, .bool false] 45) * (old w * R)))))) (fun i2 _ => on.length - (intOf i2).toNat)
      case atStart => exact ⟨0, Nat.zero_le _, rfl, HH2.out⟩
      case round =>
        obtain ⟨k2, hk2, rfl, hH3⟩ := hrel
        by_cases hlt2 : k2 < on.length
        · obtain ⟨s, hs⟩ : ∃ s, s = on[k2] := ⟨_, rfl⟩
          have hsin : s ∈ on := hs ▸ List.getElem_mem _
          have hss : s.size ≤ maxLen := Nat.le_trans (HSZ.out s hsin) (by unfold maxLen; omega)
          obtain ⟨_, _, ⟨_, h0⟩ | ⟨b, o2, c', hv, hb0, hcell⟩⟩ := Holds.reads hH3
          · omega
          simp only [Value.slice.injEq, true_and] at hv
          obtain ⟨rfl, rfl⟩ := hv
          have hck := hcell k2 (.string on[k2]) (by simp [hlt2])
          rw [← hs] at hck
          have hl := look_some hH3.f2 (d := 0) (I64.of (by omega)) hss (nb := nb) (namesC_some hsin) (x := ⟨brn7, 0, (on.length : Int)⟩) (by simp [namesC, alGet]) (by simp [brn7])
          simp only [brn7, Brn.agg] at hl
          have HL := Lib.hid hl
          have HH3 := Lib.hid hH3
          have HS3 := Lib.hid hs
          have hb1 : (0 : Int) ≤ (k2 : Int) := by omega
          have hb2 : (k2 : Int) < (on.length : Int) := by omega
          clear hl hH3 hs hcell
          go_wp2_with fail
          refine HL.out.mono ?_
          rintro e w4 ⟨v4, rfl, h4⟩
          obtain ⟨a4, c4, rfl, _⟩ := Holds.own_slice h4
          have h5 := h4.alloc (.cells #[.int .i64 1, .int .i64 7, .int .i64 0, .string ⟨#[]⟩, .bool false, .slice a4 1 c4, .int .i64 1, .int .i64 2, .int .i64 3, .int .i64 0] 37)
          have k5 := blk_cells h5
          have k6 := blk_cells h5.f5
          have HH5 := Lib.hid h5.right.right.b2
          clear h4 h5 HL HH3
          go_wp2_with fail
          exact ⟨⟨k2 + 1, by omega, by simp, HH5.out⟩, by simp [intOf]; omega⟩
        · have hkk : k2 = on.length := by omega
          subst hkk
          obtain ⟨j, hj⟩ : ∃ j, j = pk.toNat % on.length := ⟨_, rfl⟩
          have hjl : j < on.length := hj ▸ Nat.mod_lt _ hon1
          have hrem : pk % (on.length : Int) = (j : Int) := by rw [hj, Int.natCast_emod, Int.toNat_of_nonneg hk.1]
          obtain ⟨s, hs⟩ : ∃ s, s = on[j] := ⟨_, rfl⟩
          have hsin : s ∈ on := hs ▸ List.getElem_mem _
          have hss : s.size ≤ maxLen := Nat.le_trans (HSZ.out s hsin) (by unfold maxLen; omega)
          obtain ⟨_, _, ⟨_, h0⟩ | ⟨b, o2, c', hv, hb0, hcell⟩⟩ := Holds.reads hH3
          · omega
          simp only [Value.slice.injEq, true_and] at hv
          obtain ⟨rfl, rfl⟩ := hv
          have hck := hcell j (.string on[j]) (by simp [hjl])
          rw [← hs] at hck
          have hents : (namesC brn7 nb on).ents = on.map fun n => (((0 : Int), n), nb) := rfl
          have hl := delete_seg hH3.f2 (d := 0) (I64.of (by omega)) hss (nb := nb) (namesC_some hsin) (c := (on.length : Int)) rfl (x := ⟨brn7, 0, (on.length : Int)⟩) (by simp [namesC, alGet])
            (by rw [hents, List.map_map]; exact List.Pairwise.map _ (fun a b h e => h (Prod.mk.inj e).2) HND.out) (by rw [hents]; intro p hp; obtain ⟨n, hn, rfl⟩ := List.mem_map.1 hp; exact Nat.le_trans (HSZ.out n hn) (by unfold maxLen; omega))
            (by rw [hents]; intro p hp; obtain ⟨n, hn, rfl⟩ := List.mem_map.1 hp; exact ⟨⟨brn7, 0, (on.length : Int)⟩, by simp [namesC, alGet]⟩) (by rw [hents, List.length_map]; omega) (by rw [namesC_in]) (by rw [hents, List.filter_eq_self.2 (by intro p hp; obtain ⟨n, hn, rfl⟩ := List.mem_map.1 hp; simp), List.length_map]) rfl (I64.of (by simp [brn7])) (by simp [brn7])
          rw [namesC_gone rfl] at hl
          simp only [brn7, Brn.agg] at hl
          have HL := Lib.hid hl
          have HS3 := Lib.hid hs
          have HJ := Lib.hid hj
          have hb1 : (0 : Int) ≤ (j : Int) := by omega
          have hb2 : (j : Int) < (on.length : Int) := by omega
          have hk0 := hk.1
          have hk1 := hk.2
          have hon2 : (0 : Int) < (on.length : Int) := by omega
          clear hl hH3 hs hcell hj hents
          go_wp2_with fail
          refine HL.out.mono ?_
          rintro e w4 ⟨v4, rfl, h4⟩
          obtain ⟨a4, c4, rfl, _⟩ := Holds.own_slice h4
          have h5 := h4.alloc (.cells #[.int .i64 1, .int .i64 7, .int .i64 0, .string ⟨#[]⟩, .bool false, .slice a4 1 c4, .int .i64 1, .int .i64 2, .int .i64 3, .int .i64 0] 37)
          have hb := byuid_none h5.f3 (u := 7) (I64.of (by omega)) rfl
          simp only [zeroBrn] at hb
          have HB := Lib.hid hb
          clear h4 h5 HL hb
          go_wp2_with fail
          refine HB.out.mono ?_
          rintro e w5 ⟨rfl, h5, _⟩
          have h6 := h5.alloc (.cells #[.int .i64 0, .int .i64 0, .int .i64 0, .string ⟨#[]⟩, .bool false, .slice none 0 0, .int .i64 0, .int .i64 0, .int .i64 0, .int .i64 0] 37)
          have k6 := blk_cells h6.f3
          have hn := len_any h6.f2 (d := 0) (I64.of (by omega))
          simp only [alGet, if_true, Option.getD_some] at hn
          have HN := Lib.hid hn
          have HF := Lib.hid h6.d5.d2
          clear h5 h6 HB hn
          go_wp2_with fail
          refine HN.out.mono ?_
          rintro e w6 ⟨rfl, rfl⟩
          go_wp2
          go_ret
          exact ⟨rfl, HF.out⟩
end
end Go.Proofs.YtapkcgmjadpdiaaDoor

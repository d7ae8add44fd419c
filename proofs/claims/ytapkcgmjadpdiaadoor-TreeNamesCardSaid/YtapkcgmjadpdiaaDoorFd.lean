/- acl.Find: what a user may. -/
import Derived.Test.YtapkcgmjadpdiaaDoorSd
namespace Go.Proofs.YtapkcgmjadpdiaaDoor
set_option linter.unusedVariables false
set_option linter.unusedSimpArgs false
open Go.RowKit Go.Maps Go.Sp Go.Proofs.YtapkcgmjadpdiaaDoorW.PrintLast

def flg0 : Flg := ⟨false, false, false⟩
def hasU (l : List Trm) (u : ByteArray) : Option Flg := (l.find? fun t => t.user.toList == u.toList).map Trm.f
def flagsB (l : List Trm) (u : ByteArray) : Flg := if listB l = true then ((hasU l u).getD ((hasU l star1).getD flg0)) else flg0
theorem hasU_at {l : List Trm} {u : ByteArray} {k : Nat} {t : Trm} (h : ∀ j t', j < k → l[j]? = some t' → ¬ t'.user.toList = u.toList) (ht : l[k]? = some t) (hu : t.user.toList = u.toList) : hasU l u = some t.f := by
  have hk : k < l.length := (List.getElem?_eq_some_iff.1 ht).1
  have : l.find? (fun t => t.user.toList == u.toList) = some t := by
    rw [List.find?_eq_some_iff_getElem]
    refine ⟨by simpa using hu, k, hk, by rw [List.getElem?_eq_getElem hk] at ht; exact Option.some.inj ht, fun j hj => ?_⟩
    have := h j l[j] hj (List.getElem?_eq_getElem _)
    simpa using this
  simp [hasU, this]
theorem hasU_no {l : List Trm} {u : ByteArray} (h : ∀ j t', j < l.length → l[j]? = some t' → ¬ t'.user.toList = u.toList) : hasU l u = none := by
  have : l.find? (fun t => t.user.toList == u.toList) = none := by
    rw [List.find?_eq_none]
    intro t ht
    obtain ⟨i, hi, e⟩ := List.getElem_of_mem ht
    have := h i t hi (by rw [← e]; exact List.getElem?_eq_getElem hi)
    simpa using this
  simp [hasU, this]

/-- The end of a function that hands out flags. -/
theorem ret_flags {fn : Func} {Q : Ending → World → Prop} {a : Act} {W : World} {i n : Nat} {f : Flg} {fz : Nat × Nat} (hr : fn.results = #[.cell i 23]) (hi : a.tmps.getD i undef = .pointer (some ⟨n, 0, none⟩)) (hd : a.defers = [])
    (hg : W.heap[n]? = some (.cells #[.bool f.r, .bool f.w, .bool f.e] 23 fz)) (hQ : Q (.returned f.agg) W) : bodyPost Tryd.prog fn Q .ret a W := by
  refine bodyPost_ret (v := f.agg) ?_ hd hQ
  have hi' : a.tmps[i]?.getD undef = .pointer (some ⟨n, 0, none⟩) := by simpa using hi
  have h0 := fun k => (show W.cell? ⟨n, k, none⟩ = (#[.bool f.r, .bool f.w, .bool f.e] : Array Value)[k]? by simp [World.cell?, hg])
  have e0 := h0 0
  have e1 := h0 1
  have e2 := h0 2
  clear h0 hg
  simp at e0 e1 e2
  simp [results, hr, hi', go_sem, Flg.agg, e0, e1, e2]

set_option maxRecDepth 100000 in
set_option maxHeartbeats 2000000 in
theorem find_ok (v : Value) (l : List Trm) (u : ByteArray) (w : World) (b o c : Nat) (hv : v = .slice (some ⟨b, o, none⟩) l.length c) (hlm : l.length ≤ maxLen) (hb : b < w.heap.size) (hc : ∀ j x, (terms l)[j]? = some x → w.cell? ⟨b, o + j, none⟩ = some x) (hus : ∀ t ∈ l, t.user.size ≤ maxLen) (hl : listB l = true) :
    Calls Tryd.prog 33 #[v, .string u] w fun e w' => e = .returned (flagsB l u).agg ∧ Below w.heap.size w w' := by
  subst hv
  have hm := fun W (hB : Below w.heap.size w W) => aclMay_any (.slice (some ⟨b, o, none⟩) l.length c) l W ((show Reads w 4 (.slice (some ⟨b, o, none⟩) l.length c) l.length (terms l) from ⟨terms_len l, hlm, .inr ⟨b, o, c, rfl, hb, hc⟩⟩).below hB) hus
  rw [hl] at hm
  have HM := Lib.hid hm
  have HL := Lib.hid hl
  unfold maxLen at hlm
  have hBA : ∀ o1, Below w.heap.size w (w.alloc o1) := fun o1 => (Below.refl _ _).alloc (Nat.le_refl _) _
  clear hm hl
  go_enter Tryd.func33, Tryd.ntmps33
  go_wp2_with fail
  refine (HM.out _ (hBA _)).mono ?_
  rintro e w1 ⟨rfl, hB1⟩
  have hB01 := (hBA (.cells #[.bool false, .bool false, .bool false] 23)).trans (hB1.mono (by simp))
  have hz1 : w.heap.size < w1.heap.size := by have := hB1.size; simp at this; omega
  have hH1 := ((Holds.emp w).alloc (.cells #[.bool false, .bool false, .bool false] 23)).below hB1
  have hH2 := hH1.alloc (.cells #[.string u, .string star1] 9)
  have hB2 : Below w.heap.size w (w1.alloc (.cells #[.string u, .string star1] 9)) := hB01.alloc (by omega) _
  clear hB1 hB01 hH1 hBA
  go_wp2
  have e0 : (([42] : List UInt8).toArray) = #[42] := rfl
  go_loopw [16] (fun i wr => ∃ j : Nat, j ≤ 2 ∧ i = .int .i64 j ∧ (1 ≤ j → hasU l u = none) ∧ (2 ≤ j → hasU l star1 = none) ∧ Holds wr (blk w1.heap.size (.cells #[.string u, .string star1] 9) * (blk w.heap.size (.cells #[.bool false, .bool false, .bool false] 23) * emp)) ∧ Below w.heap.size w wr) (fun i _ => 2 - (intOf i).toNat)
  case atStart => exact ⟨0, by omega, rfl, by omega, by omega, hH2, hB2⟩
  case round =>
    clear hH2 hB2
    obtain ⟨j, hj, rfl, hn1, hn2, hH, hBw⟩ := hrel
    have HN1 := Lib.hid hn1
    have HN2 := Lib.hid hn2
    clear hn1 hn2
    obtain ⟨wo, rfl⟩ : ∃ wo : World, wo = wr := ⟨_, rfl⟩
    by_cases hj2 : j < 2
    · obtain ⟨nm, hnm, hcell⟩ : ∃ nm : ByteArray, ((j = 0 ∧ nm = u) ∨ (j = 1 ∧ nm = star1)) ∧ wo.cell? ⟨w1.heap.size, j, none⟩ = some (.string nm) := by
        have hk := blk_cells hH j
        match j, hj2 with
        | 0, _ => exact ⟨u, .inl ⟨rfl, rfl⟩, by simpa using hk⟩
        | 1, _ => exact ⟨star1, .inr ⟨rfl, rfl⟩, by simpa using hk⟩
      have HNM := Lib.hid hnm
      clear hnm
      have hj0 : (0 : Int) ≤ (j : Int) := by omega
      have hj3 : (j : Int) < 2 := by omega
      go_wp2
      go_loopw [22] (fun i wr => ∃ k : Nat, k ≤ l.length ∧ i = .int .i64 k ∧ (∀ j' t', j' < k → l[j']? = some t' → ¬ t'.user.toList = nm.toList) ∧ Holds wr (blk w1.heap.size (.cells #[.string u, .string star1] 9) * (blk w.heap.size (.cells #[.bool false, .bool false, .bool false] 23) * emp)) ∧ Below w.heap.size w wr) (fun i _ => l.length - (intOf i).toNat)
      case atStart => exact ⟨0, by omega, rfl, fun _ _ h => by omega, hH, hBw⟩
      case round =>
        clear hH hBw hcell
        obtain ⟨k, hk, rfl, hne, hH, hBw⟩ := hrel
        have HNE := Lib.hid hne
        clear hne
        by_cases hlt : k < l.length
        · have hk0 : (0 : Int) ≤ (k : Int) := by omega
          have hk1 : (k : Int) < (l.length : Int) := by omega
          obtain ⟨tt, ht⟩ : ∃ tt, l[k]? = some tt := ⟨l[k], List.getElem?_eq_getElem hlt⟩
          have hcr : ∀ j x, (terms l)[j]? = some x → wr.cell? ⟨b, o + j, none⟩ = some x := fun j x h => by rw [hBw.cell (p := ⟨b, o + j, none⟩) hb]; exact hc j x h
          obtain ⟨g0, g1, g2, g3⟩ := term_cells hcr ht
          have hbr : b < wr.heap.size := Nat.lt_of_lt_of_le hb hBw.size
          have HT := Lib.hid ht
          have hA := (hH.alloc (.cells #[.string tt.user, .bool tt.f.r, .bool tt.f.w, .bool tt.f.e] 45)).to (Q := blk w.heap.size (.cells #[.bool false, .bool false, .bool false] 23 (0, 0)) * (blk wr.heap.size _ * (blk w1.heap.size _ * emp))) (by ac_rfl)
          have hk2 := blk_cells hA
          have hq2 := blk_free hA
          have hH4 := hH.alloc (.cells #[.string tt.user, .bool tt.f.r, .bool tt.f.w, .bool tt.f.e] 45)
          have HH5 := Lib.hid hH4.right
          have HB5 := Lib.hid (hBw.alloc hBw.size (.cells #[.string tt.user, .bool tt.f.r, .bool tt.f.w, .bool tt.f.e] 45))
          have hE : Holds _ (blk w.heap.size (.cells #[.bool tt.f.r, .bool tt.f.w, .bool tt.f.e] 23 (0, 0)) * _) := ((hA.setCell (i := 0) (.bool tt.f.r)).setCell (i := 1) (.bool tt.f.w)).setCell (i := 2) (.bool tt.f.e)
          have HE := Lib.hid hE.get
          clear hcr ht hH4 hA hE hH hBw
          by_cases heq : tt.user.toList = nm.toList
          · have heq' : (tt.user.toList == nm.toList) = true := by simpa using heq
            go_wp2
            refine ret_flags (f := tt.f) (i := 4) rfl rfl rfl HE.out ⟨?_, ?_⟩
            · have : flagsB l u = tt.f := by
                rcases HNM.out with ⟨_, hnm⟩ | ⟨hj1, hnm⟩
                · rw [hnm] at heq HNE
                  simp [flagsB, HL.out, hasU_at HNE.out HT.out heq]
                · rw [hnm] at heq HNE
                  simp [flagsB, HL.out, HN1.out (by omega), hasU_at HNE.out HT.out heq]
              rw [this]
            · exact ((HB5.out.setCell (p := ⟨w.heap.size, 0, none⟩) (Nat.le_refl _) _).setCell (p := ⟨w.heap.size, 1, none⟩) (Nat.le_refl _) _).setCell (p := ⟨w.heap.size, 2, none⟩) (Nat.le_refl _) _
          · have heq' : (tt.user.toList == nm.toList) = false := by simpa using heq
            go_wp2
            go_roundw
            case rel => exact ⟨k + 1, by omega, by go_num, fun j' t' hj' ht' => by
              by_cases e : j' = k
              · subst e; rw [HT.out] at ht'; cases ht'; exact heq
              · exact HNE.out j' t' (by omega) ht', HH5.out, HB5.out⟩
            case measure => simp [intOf]; omega
        · have hnn : hasU l nm = none := hasU_no (fun j' t' hj' ht' => HNE.out j' t' (by omega) ht')
          have HNN := Lib.hid hnn
          have HHH := Lib.hid hH
          clear hnn
          go_wp2
          go_roundw
          case rel => exact ⟨j + 1, by omega, by go_num, fun _ => by
            rcases HNM.out with ⟨_, e⟩ | ⟨hj1, _⟩
            · rw [← e]; exact HNN.out
            · exact HN1.out (by omega), fun _ => by
            rcases HNM.out with ⟨h0, _⟩ | ⟨_, e⟩
            · omega
            · rw [← e]; exact HNN.out, HHH.out, hBw⟩
          case measure => simp [intOf]; omega
    · have hA := hH.to (star_left_comm _ _ _)
      have hk2 := blk_cells hA
      have hq2 := blk_free hA
      have hE : Holds _ (blk w.heap.size (.cells #[.bool false, .bool false, .bool false] 23 (0, 0)) * _) := ((hA.setCell (i := 0) (.bool false)).setCell (i := 1) (.bool false)).setCell (i := 2) (.bool false)
      have HE := Lib.hid hE.get
      clear hA hE hH
      go_wp2
      refine ret_flags (f := flg0) (i := 4) rfl rfl rfl HE.out ⟨?_, ?_⟩
      · have : flagsB l u = flg0 := by simp [flagsB, HL.out, HN1.out (by omega), HN2.out (by omega)]
        rw [this]
      · exact ((hBw.setCell (p := ⟨w.heap.size, 0, none⟩) (Nat.le_refl _) _).setCell (p := ⟨w.heap.size, 1, none⟩) (Nat.le_refl _) _).setCell (p := ⟨w.heap.size, 2, none⟩) (Nat.le_refl _) _
end Go.Proofs.YtapkcgmjadpdiaaDoor

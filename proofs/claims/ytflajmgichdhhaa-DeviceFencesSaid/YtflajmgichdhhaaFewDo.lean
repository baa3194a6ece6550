/- Few; an operation on a held device. -/
import Derived.Test.YtflajmgichdhhaaDo
import Derived.BigQuiet
import Derived.Test.YtflajmgichdhhaaCrashS

namespace Go.Proofs.Ytflajmgichdhhaa.PG
open Go.RowKit Go.Proofs.YtflajmgichdhhaaW.PrintWords Go.Proofs.YtflajmgichdhhaaW.PrintLast Go.Proofs.YtflajmgichdhhaaW.PrintMore

set_option linter.unusedVariables false
set_option linter.unusedSimpArgs false
/-! ### Few -/
theorem w64 (n : Int) (h0 : -9223372036854775808 ≤ n) (h1 : n ≤ 9223372036854775807) : wrap64 n = n := by unfold wrap64; omega
theorem rdT37_at (xs : List S37) (i : Nat) (h : i < xs.length) : rd_T37 xs (i : Int) = xs[i] := by
  unfold rd_T37
  rw [Int.toNat_natCast, List.getD_eq_getElem?_getD, List.getElem?_eq_getElem h]
  rfl
def FewOk (l : List S37) (m : Nat) : Prop := l.length ≤ m ∧ ∀ o ∈ l, o.f6.length ≤ 100
theorem few_at (l : List S37) (m : Nat) (hl : l.length ≤ maxLen) : ∀ (n i : Nat), i ≤ l.length → l.length - i ≤ n → (∀ o ∈ l.take i, o.f6.length ≤ 100) → ∃ k r, dasdref03_Few.l0 k l m (i : Int) = some r ∧ (r = true → FewOk l m)
  | 0, i, hi, hn, ha => ⟨1, _, by unfold dasdref03_Few.l0; rw [if_neg (by omega)], fun h => ⟨by have := of_decide_eq_true h; omega, fun o ho => ha o (by rw [List.take_of_length_le (by omega)]; exact ho)⟩⟩
  | n + 1, i, hi, hn, ha => by
    by_cases h : i < l.length
    · have hw : wrap64 ((i : Int) + 1) = ((i + 1 : Nat) : Int) := by
        have : l.length ≤ 9223372036854775807 := hl
        rw [w64 _ (by omega) (by omega)]; omega
      by_cases hs : (((rd_T37 l i).f3).size : Int) > 300
      · exact ⟨1, false, by unfold dasdref03_Few.l0; rw [if_pos (by omega), if_pos (by omega), if_pos hs], fun h => by cases h⟩
      · by_cases hs2 : (((rd_T37 l i).f6).length : Int) > 100
        · exact ⟨1, false, by unfold dasdref03_Few.l0; rw [if_pos (by omega), if_pos (by omega), if_neg hs, if_pos hs2], fun h => by cases h⟩
        · obtain ⟨k, r, h1, h2⟩ := few_at l m hl n (i + 1) (by omega) (by omega) (fun o ho => by
            rw [List.take_succ_eq_append_getElem h] at ho
            rcases List.mem_append.1 ho with ho | ho
            · exact ha o ho
            · rw [List.mem_singleton.1 ho, ← rdT37_at l i h]; omega)
          exact ⟨k + 1, r, by unfold dasdref03_Few.l0; rw [if_pos (by omega), if_pos (by omega), if_neg hs, if_neg hs2, hw]; exact h1, h2⟩
    · exact ⟨1, _, by unfold dasdref03_Few.l0; rw [if_neg (by omega)], fun z => ⟨by have := of_decide_eq_true z; omega, fun o ho => ha o (by rw [List.take_of_length_le (by omega)]; exact ho)⟩⟩
def FewPost (l : List S37) (m : Nat) (W : World) (e : Ending) (W' : World) : Prop := ∃ r, e = .returned (.bool r) ∧ (r = true → FewOk l m) ∧ Below W.heap.size W W'
theorem few_calls (W : World) (a : Option Addr) (c : Nat) (l : List S37) (m : Nat) (hr : Kd.C k37 W a l.length l) (hc : l.length ≤ c) (hl : c ≤ maxLen) :
    Calls Try.prog 11 #[.slice a l.length c, .int .i64 m] W fun e W' => FewPost l m W e W' := by
  obtain ⟨k, r, h1, h2⟩ := few_at l m (Nat.le_trans hc hl) l.length 0 (Nat.zero_le _) (by omega) (fun o ho => by cases ho)
  refine (dasdref03_Few.calls k a c l m r W hr hc h1).mono ?_
  rintro e W' ⟨rfl, hd⟩
  exact ⟨r, rfl, h2, hd.below⟩
/-! ### an operation on a held device -/
theorem Inv.do {W0 W1 : World} {L : Lay} {K : List (Nat × Obj)} {S : DevS} {k : Nat} (h : Inv W0 L K S W1) (hg : Good k S) (hk : k ≤ 1000000) (o : S37) (hw : Opens.OpWf o) (A : Option Addr) (c : Nat) (hC : Kd.C (Kd.int .i64) W0 A o.f6.length o.f6) (hlc : o.f6.length ≤ c) (hlm : o.f6.length ≤ 1000000) :
    Calls Try.prog 14 #[.pointer (some ⟨L.g, 0, none⟩), .agg (opCells o A c)] W1 fun e W' => e = .returned (.int .i64 (doS o S).1) ∧ Inv W0 L K (doS o S).2 W' :=
  h.post (fun F hI => do_calls hI hg hk o hw A c (Kd.F_mono (Kd.F_below (Kd.C_F (Kd.heap_int _) hC) h.bel) (fun k hk z => by have := (hI.range _ z).1; omega)) hlc hlm)
theorem calm_do {S : DevS} (h : Calm S) (o : S37) (h3 : o.f0 % 8 ≠ 3) (h4 : o.f0 % 8 ≠ 4) : Calm (doS o S).2 := by
  unfold doS
  split
  · unfold writeS
    split
    · split
      · split
        · rw [h.admit]; exact h.push _
        · rw [h.admit]; exact h
      · exact h
    · exact h
  · split
    · unfold syncS
      split
      · split
        · rw [h.admit]; exact h.finish _ _
        · rw [h.admit]; exact h
      · exact h
    · split
      · exact h.finish _ _
      · split
        · exact ⟨rfl, h.fences, rfl⟩
        · split
          · unfold damageS
            split
            · split
              · exact h
              · exact ⟨h.failed, h.fences, h.fset⟩
            · exact h
          · unfold returnS
            split
            · exact ⟨h.failed, h.fences, h.fset⟩
            · exact h
theorem len_finish (p : S99 → Bool) (l : List Int) (S : DevS) : (finishS p l S).stable.length = S.stable.length := (endF_same p l S.pend (0, S)).sl
theorem len_admit (S : DevS) (sys ep : Int) : (admitS S sys ep).2.stable.length = S.stable.length := by
  unfold admitS
  split
  · rfl
  · split
    · rfl
    · split
      · rfl
      · split
        · rfl
        · exact len_finish _ _ _
theorem len_fence (S : DevS) (sys ep : Int) : (fenceS S sys ep).stable.length = S.stable.length := by
  have key : ∀ b : Bool, (if b = true then { S with fences := fun a => if a = sys then some ep else S.fences a } else S).stable.length = S.stable.length := fun b => by cases b <;> rfl
  unfold fenceS
  split
  · rfl
  · exact key _
theorem len_do (o : S37) (S : DevS) : (doS o S).2.stable.length = S.stable.length := by
  unfold doS
  split
  · unfold writeS
    split
    · split
      · split
        · exact len_admit _ _ _
        · exact len_admit _ _ _
      · rfl
    · rfl
  · split
    · unfold syncS
      split
      · split
        · exact (len_finish _ _ _).trans (len_admit _ _ _)
        · exact len_admit _ _ _
      · rfl
    · split
      · exact len_finish _ _ _
      · split
        · exact len_fence _ _ _
        · split
          · unfold failS; split <;> rfl
          · split
            · rfl
            · split
              · unfold damageS
                split
                · split
                  · rfl
                  · simp
                · rfl
              · unfold returnS
                split
                · simp
                · rfl
end Go.Proofs.Ytflajmgichdhhaa.PG

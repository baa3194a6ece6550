/- The functions that match writes, and Pending. -/
import Derived.Test.YtflajmgichdhhaaDel
import Derived.BigQuiet

import Derived.Shelf.Abstract
namespace Go.Proofs.Ytflajmgichdhhaa.PG
open Go.RowKit Go.Proofs.YtflajmgichdhhaaW.PrintWords Go.Proofs.YtflajmgichdhhaaW.PrintLast Go.Proofs.YtflajmgichdhhaaW.PrintMore

set_option linter.unusedVariables false
set_option linter.unusedSimpArgs false
/-! ### of, its function, admit's function; Pending -/
set_option maxRecDepth 100000 in
theorem of_calls (W : World) (sys : Int) :
    Calls Try.prog 52 #[.int .i64 sys] W fun e W' => e = .returned (.func (.func 62) #[] #[.pointer (some ⟨W.heap.size, 0, none⟩)]) ∧ W' = W.alloc (.cells #[.int .i64 sys] 3) := by
  go_enter Try.func52, Try.ntmps52
  go_wp2_with fail
  go_ret
  exact ⟨rfl, rfl⟩
theorem eg62 : ∀ args w, (callFunc 62 args).run Try.prog w = .ok (.enter 62 args) w := enters_of Try.func62 (by kernel_rfl) rfl
theorem eg59 : ∀ args w, (callFunc 59 args).run Try.prog w = .ok (.enter 59 args) w := enters_of Try.func59 (by kernel_rfl) rfl
def isOf (sys : Int) (a : S99) : Bool := a.f0 == sys
def isAny (_ : S99) : Bool := true
set_option maxRecDepth 100000 in
theorem match62 (W : World) (b : Nat) (a : S99) (sys : Int) (h : W.heap[b]? = some (.cells #[.int .i64 sys] 3 (0, 0))) :
    Calls Try.prog 62 #[encW a, .pointer (some ⟨b, 0, none⟩)] W fun e W' => e = .returned (.bool (a.f0 == sys)) ∧ Below W.heap.size W W' := by
  have hl : b < W.heap.size := blk_lt h
  have c0 : W.cell? ⟨b, 0, none⟩ = some (.int .i64 sys) := by rw [blk_cell h]; rfl
  clear h
  unfold encW
  go_enter Try.func62, Try.ntmps62
  go_wp2_with fail
  go_ret
  exact ⟨rfl, below_alloc (Below.refl _ _) _⟩
set_option maxRecDepth 100000 in
theorem match59 (W : World) (a : S99) :
    Calls Try.prog 59 #[encW a] W fun e W' => e = .returned (.bool true) ∧ Below W.heap.size W W' := by
  unfold encW
  go_enter Try.func59, Try.ntmps59
  go_wp2_with fail
  go_ret
  exact ⟨rfl, below_alloc (Below.refl _ _) _⟩
theorem matchOf (W : World) (X : Nat → Prop) (b : Nat) (sys : Int) (h : W.heap[b]? = some (.cells #[.int .i64 sys] 3 (0, 0))) (hx : ¬ X b) : MatchOk W X 62 #[.pointer (some ⟨b, 0, none⟩)] (isOf sys) :=
  ⟨eg62, fun a W' hk => match62 W' b a sys (blk_kept h hk hx)⟩
theorem matchAny (W : World) (X : Nat → Prop) : MatchOk W X 59 #[] isAny := ⟨eg59, fun a W' _ => match59 W' a⟩
def pendN (S : DevS) (sys : Int) : Nat := (S.pend.filter (isOf sys)).length
theorem filter_step (p : S99 → Bool) (xs : List S99) (j : Nat) (h : j < xs.length) : ((xs.take (j + 1)).filter p).length = ((xs.take j).filter p).length + if p xs[j] = true then 1 else 0 := by
  rw [List.take_succ_eq_append_getElem h, List.filter_append, List.length_append, List.filter_cons]
  split <;> rfl
set_option maxHeartbeats 800000 in
set_option maxRecDepth 100000 in
theorem pending_calls {W : World} {B : Nat} {L : Lay} {vs : List Value} {pv uv : Value} {m : Ents} {F : Nat → Prop} {S : DevS} (hP : DevAt W B L vs pv uv m F S) (hpl : S.pend.length ≤ 1000000) (sys : Int) :
    Calls Try.prog 24 #[.pointer (some ⟨L.g, 0, none⟩), .int .i64 sys] W fun e W' => e = .returned (.int .i64 (pendN S sys : Int)) ∧ Below W.heap.size W W' := by
  have c2 := hP.c2
  have lg := hP.lg
  obtain ⟨A, c, hpv, hpc, hC⟩ := hP.pslice
  subst hpv
  have HC := Aside0.mk hC
  clear hP hC
  go_enter Try.func24, Try.ntmps24
  go_wp2_with fail
  refine (of_calls W sys).mono ?_
  rintro e W1 ⟨rfl, hW1⟩
  have hb1 : Below W.heap.size W W1 := by rw [hW1]; exact below_alloc (Below.refl _ _) _
  have hx1 : W1.heap[W.heap.size]? = some (.cells #[.int .i64 sys] 3 (0, 0)) := by rw [hW1]; exact blk_new _ _
  have k2 := (hb1.cell (p := ⟨L.g, 2, none⟩) lg).trans c2
  have HM := Aside0.mk (matchOf W1 (fun _ => False) W.heap.size sys hx1 (fun z => z))
  have EG := eg62
  have HB1 := Aside0.mk hb1
  have HC1 := Aside0.mk (Kd.C_below HC.out hb1)
  clear hb1 hx1 hW1 c2 HC
  go_wp2_with fail
  go_loopg [5, 16] S.pend.length (fun gg s5 s16 wr => ∃ j n : Nat, s16 = .int .i64 j ∧ s5 = .int .i64 n ∧ j ≤ S.pend.length ∧ S.pend.length - j ≤ gg ∧ n ≤ j ∧ Aside0 (n = ((S.pend.take j).filter (isOf sys)).length) ∧ Aside0 (Below W1.heap.size W1 wr))
  case atStart => exact ⟨0, 0, by go_num, by go_num, Nat.zero_le _, by omega, Nat.le_refl _, ⟨rfl⟩, ⟨Below.refl _ _⟩⟩
  case round =>
    obtain ⟨j, n, rfl, rfl, hj, hgg, hnj, HN, HF⟩ := hrel
    by_cases hlt : j < S.pend.length
    · have hltz : (j : Int) < (S.pend.length : Int) := by omega
      obtain ⟨ad, e, h0, h1, h2⟩ := at_T99 (Kd.C_below HC1.out HF.out) (j : Int) (by omega) hltz
      rw [rdT99_at _ j hlt] at h0 h1 h2
      cases e
      have hst := filter_step (isOf sys) S.pend j hlt
      obtain ⟨a, ha⟩ : ∃ a, a = S.pend[j] := ⟨_, rfl⟩
      rw [← ha] at h0 h1 h2 hst
      have hcall := HM.out.say a (wr.alloc (.cells #[.int .i64 a.f0, .int .i64 a.f1, .string a.f2] 84)) (Kept.of_below (below_alloc HF.out _) _)
      unfold encW at hcall
      have HCALL := Aside0.mk hcall
      have HST := Aside0.mk hst
      clear hcall hst ha
      rw [Int.toNat_natCast] at h0 h1 h2
      cases hq : isOf sys a with
      | false =>
        rw [hq] at HCALL HST
        clear hq
        go_wp2_with fail
        refine HCALL.out.mono ?_
        rintro e W2 ⟨rfl, hf⟩
        have HF1 := Aside0.mk (HF.out.trans ((below_step (below_alloc (Below.refl wr.heap.size wr) (.cells #[.int .i64 a.f0, .int .i64 a.f1, .string a.f2] 84)) hf).mono HF.out.size))
        clear hf HCALL
        go_wp2_with fail
        go_roundg (S.pend.length - (j + 1))
        case measure => omega
        case rel => exact ⟨j + 1, n, by go_num, rfl, by omega, Nat.le_refl _, by omega, ⟨by have h1 := HST.out; have h2 := HN.out; rw [if_neg (by simp)] at h1; omega⟩, HF1⟩
      | true =>
        rw [hq] at HCALL HST
        clear hq
        go_wp2_with fail
        refine HCALL.out.mono ?_
        rintro e W2 ⟨rfl, hf⟩
        have HF1 := Aside0.mk (HF.out.trans ((below_step (below_alloc (Below.refl wr.heap.size wr) (.cells #[.int .i64 a.f0, .int .i64 a.f1, .string a.f2] 84)) hf).mono HF.out.size))
        clear hf HCALL
        go_wp2_with fail
        go_roundg (S.pend.length - (j + 1))
        case measure => omega
        case rel => exact ⟨j + 1, n + 1, by go_num, by go_num, by omega, Nat.le_refl _, by omega, ⟨by have h1 := HST.out; have h2 := HN.out; simp only [if_true] at h1; omega⟩, HF1⟩
    · obtain rfl : j = S.pend.length := by omega
      go_wp2_with fail
      go_ret
      have h := HN.out
      rw [List.take_length] at h
      exact ⟨by rw [h]; rfl, HB1.out.trans (HF.out.mono HB1.out.size)⟩
end Go.Proofs.Ytflajmgichdhhaa.PG

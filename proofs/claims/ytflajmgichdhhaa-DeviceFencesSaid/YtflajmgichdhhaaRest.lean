/- A device at rest, and the operation at a place. -/
import Derived.Test.YtflajmgichdhhaaFewDo
import Derived.BigQuiet
import Derived.Test.YtflajmgichdhhaaCrashS
import Derived.Test.YtflajmgichdhhaaReturns

namespace Go.Proofs.Ytflajmgichdhhaa.PG
open Go.RowKit Go.Proofs.YtflajmgichdhhaaW.PrintWords Go.Proofs.YtflajmgichdhhaaW.PrintLast Go.Proofs.YtflajmgichdhhaaW.PrintMore

set_option linter.unusedVariables false
set_option linter.unusedSimpArgs false
/-! ### DeviceLasts -/
theorem finish_nil {S : DevS} (h : S.pend = []) (p : S99 → Bool) (l : List Int) : finishS p l S = S := by
  unfold finishS
  rw [h]
  cases S
  simp_all [endF]
theorem crash_pend {S : DevS} {k : Nat} (h : ∀ w ∈ S.pend, (k : Int) ≤ w.f0) (l : List Int) : ∀ w ∈ (finishS (isOf (k : Int)) l S).pend, ((k + 1 : Nat) : Int) ≤ w.f0 := by
  intro w hw
  have hw : w ∈ S.pend.filter fun a => !isOf (k : Int) a := hw
  obtain ⟨h1, h2⟩ := List.mem_filter.1 hw
  have h3 := h w h1
  have h4 : w.f0 ≠ (k : Int) := by simpa [isOf] using h2
  omega
/-- A device at rest: what is written and synced is read. -/
theorem rest_sync {S : DevS} (hc : Calm S) (hp : S.pend = []) (i : Nat) (d : ByteArray) (hd : d.size = 140) (hi : i < S.stable.length) (hs : (S.stable.getD i ⟨#[]⟩).size = 140) :
    ∃ S', syncS (pushS S ⟨2, (i : Int), d⟩) 2 1 = (0, S') ∧ S'.pend = [] ∧ Calm S' ∧ readS S' (i : Int) = (d, 0) := by
  have hcp := hc.push ⟨2, (i : Int), d⟩
  refine ⟨_, hcp.sync 2 1 (by decide), ?_, hcp.finish _ _, ?_⟩
  · show (pushS S ⟨2, (i : Int), d⟩).pend.filter _ = []
    have e : (pushS S ⟨2, (i : Int), d⟩).pend = [⟨2, (i : Int), d⟩] := by show S.pend ++ _ = _; rw [hp]; rfl
    rw [e]; rfl
  · have e : (pushS S ⟨2, (i : Int), d⟩).pend = [⟨2, (i : Int), d⟩] := by show S.pend ++ _ = _; rw [hp]; rfl
    have e2 : endF (isOf 2) (List.replicate [(⟨2, (i : Int), d⟩ : S99)].length 140) [⟨2, (i : Int), d⟩] (0, pushS S ⟨2, (i : Int), d⟩) = (1, changeS ((i : Int)).toNat (cut d ((pushS S ⟨2, (i : Int), d⟩).stable.getD ((i : Int)).toNat ⟨#[]⟩) 140) (pushS S ⟨2, (i : Int), d⟩)) := rfl
    have hst : (finishS (isOf 2) (List.replicate (pushS S ⟨2, (i : Int), d⟩).pend.length 140) (pushS S ⟨2, (i : Int), d⟩)).stable = S.stable.set i d := by
      show (endF _ _ (pushS S ⟨2, (i : Int), d⟩).pend _).2.stable = _
      rw [e, e2, Int.toNat_natCast]
      show (changeS i (cut d (S.stable.getD i ⟨#[]⟩) 140) (pushS S ⟨2, (i : Int), d⟩)).stable = _
      rw [cut_whole d _ hd hs, change_stable i d (pushS S ⟨2, (i : Int), d⟩) hi]
      rfl
    have hpe : (finishS (isOf 2) (List.replicate (pushS S ⟨2, (i : Int), d⟩).pend.length 140) (pushS S ⟨2, (i : Int), d⟩)).pend = [] := by
      show (pushS S ⟨2, (i : Int), d⟩).pend.filter _ = []
      rw [e]; rfl
    unfold readS contentS
    rw [hst, hpe, (hcp.finish _ _).failed, if_pos ⟨by omega, by simp; omega⟩, if_neg (by simp)]
    rw [Int.toNat_natCast, List.getD_eq_getElem?_getD, List.getElem?_set, if_pos rfl, if_pos hi]
    rfl
/-- Element j of the operations that came in, in a later world. -/
theorem op_at {W wr : World} {A : Option Addr} {l : List S37} (hC : Kd.C k37 W A l.length l) (hb : Below W.heap.size W wr) (j : Nat) (hj : j < l.length) :
    ∃ ad A7 c7, A = some ad ∧ wr.cell? (ad.add (j * 8)) = some (.int .u8 l[j].f0) ∧ wr.cell? ⟨(ad.add (j * 8)).block, (ad.add (j * 8)).off + 1, none⟩ = some (.int .i64 l[j].f1.f0) ∧ wr.cell? ⟨(ad.add (j * 8)).block, (ad.add (j * 8)).off + 2, none⟩ = some (.int .i64 l[j].f1.f1) ∧
      wr.cell? ⟨(ad.add (j * 8)).block, (ad.add (j * 8)).off + 3, none⟩ = some (.int .i64 l[j].f2) ∧ wr.cell? ⟨(ad.add (j * 8)).block, (ad.add (j * 8)).off + 4, none⟩ = some (.string l[j].f3) ∧ wr.cell? ⟨(ad.add (j * 8)).block, (ad.add (j * 8)).off + 5, none⟩ = some (.int .i64 l[j].f4) ∧
      wr.cell? ⟨(ad.add (j * 8)).block, (ad.add (j * 8)).off + 6, none⟩ = some (.int .u8 l[j].f5) ∧ wr.cell? ⟨(ad.add (j * 8)).block, (ad.add (j * 8)).off + 7, none⟩ = some (.slice A7 l[j].f6.length c7) ∧ l[j].f6.length ≤ c7 ∧ Kd.C (Kd.int .i64) W A7 l[j].f6.length l[j].f6 := by
  obtain ⟨ad, A7, c7, e, h0, h1, h2, h3, h4, h5, h6, h7, h8, h9⟩ := at_T37 hC (j : Int) (by omega) (by omega)
  rw [rdT37_at l j hj, Int.toNat_natCast] at h0 h1 h2 h3 h4 h5 h6 h7
  rw [rdT37_at l j hj] at h8 h9
  have mv : ∀ {a : Addr} {v : Value}, W.cell? a = some v → wr.cell? a = some v := fun h => (hb.cell (World.block_lt_of_cell? W _ h)).trans h
  exact ⟨ad, A7, c7, e, mv h0, mv h1, mv h2, mv h3, mv h4, mv h5, mv h6, mv h7, h8, h9⟩
end Go.Proofs.Ytflajmgichdhhaa.PG

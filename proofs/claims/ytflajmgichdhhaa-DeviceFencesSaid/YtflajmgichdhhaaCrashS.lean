/- The states that DeviceCrashes comes through, in plain Lean. -/
import Derived.Test.YtflajmgichdhhaaBegin
import Derived.BigQuiet


namespace Go.Proofs.Ytflajmgichdhhaa.PG
open Go.RowKit Go.Proofs.YtflajmgichdhhaaW.PrintWords Go.Proofs.YtflajmgichdhhaaW.PrintLast Go.Proofs.YtflajmgichdhhaaW.PrintMore

set_option linter.unusedVariables false
set_option linter.unusedSimpArgs false
attribute [local go_sem] max2_int min2_int max_two min_two
/-! ### a device without fences, fuse and failure -/
structure Calm (S : DevS) : Prop where
  failed : S.failed = false
  fences : ∀ a, S.fences a = none
  fset : S.fset = false
theorem Calm.admit {S : DevS} (h : Calm S) (sys ep : Int) : admitS S sys ep = (0, S) := by
  unfold admitS fencedS
  rw [h.failed, if_neg (by simp), h.fences sys, if_neg (by simp), h.fset, if_pos rfl]
theorem Calm.write {S : DevS} (h : Calm S) (sys ep sec : Int) (d : ByteArray) (hp : plainB sys ep = true) (hd : d.size = 140) (h0 : 0 ≤ sec) (h1 : sec < (S.stable.length : Int)) : writeS S sys ep sec d = (0, pushS S ⟨sys, sec, d⟩) := by
  unfold writeS
  rw [if_pos ⟨hp, hd⟩, if_pos ⟨h0, h1⟩, h.admit, if_pos rfl]
theorem Calm.sync {S : DevS} (h : Calm S) (sys ep : Int) (hp : plainB sys ep = true) : syncS S sys ep = (0, finishS (isOf sys) (List.replicate S.pend.length 140) S) := by
  unfold syncS
  rw [if_pos hp, h.admit, if_pos rfl]
theorem Calm.push {S : DevS} (h : Calm S) (w : S99) : Calm (pushS S w) := ⟨h.failed, h.fences, h.fset⟩
theorem Calm.finish {S : DevS} (h : Calm S) (p : S99 → Bool) (l : List Int) : Calm (finishS p l S) := by
  have hs := endF_same p l S.pend (0, S)
  exact ⟨hs.failed.trans h.failed, fun a => by show (endF p l S.pend (0, S)).2.fences a = none; rw [hs.fences]; exact h.fences a, hs.fset.trans h.fset⟩
theorem change_stable (n : Nat) (d : ByteArray) (S : DevS) (hn : n < S.stable.length) : (changeS n d S).stable = S.stable.set n d := by
  unfold changeS
  split
  · rename_i h
    apply List.ext_getElem?
    intro i
    rw [List.getElem?_set]
    by_cases e : n = i
    · subst e
      rw [if_pos rfl, if_pos hn, List.getElem?_eq_getElem hn, ← h, List.getD_eq_getElem?_getD, List.getElem?_eq_getElem hn]
      rfl
    · rw [if_neg e]
  · rfl
/-! ### DeviceCrashes: the states -/
def cOld : ByteArray := fullS ⟨#[111, 108, 100]⟩
def cTwo : ByteArray := fullS ⟨#[116, 119, 111]⟩
def cA (j : Nat) : DevS := { newS 6 with pend := (List.range j).map fun (i : Nat) => ⟨2, (i : Int), cOld⟩ }
def cB : DevS := ⟨List.replicate 6 cOld, List.replicate 6 [zeros140], [], fun _ => none, false, 0, [], false⟩
def cC : DevS := { cB with pend := [⟨2, 5, cTwo⟩] }
def pendD (l : List ByteArray) (k : Nat) : List S99 := (List.range (min k 5)).map fun (i : Nat) => ⟨1, (i : Int), fullS (l.getD i ⟨#[]⟩)⟩
def cD (l : List ByteArray) (k : Nat) : DevS := { cB with pend := ⟨2, 5, cTwo⟩ :: pendD l k }
def cE (l : List ByteArray) (sv : List Int) : DevS := finishS (isOf 1) sv (cD l l.length)
theorem cOld_size : cOld.size = 140 := fullS_size _
theorem cTwo_size : cTwo.size = 140 := fullS_size _
theorem calm_A (j : Nat) : Calm (cA j) := ⟨rfl, fun _ => rfl, rfl⟩
theorem calm_B : Calm cB := ⟨rfl, fun _ => rfl, rfl⟩
theorem calm_C : Calm cC := ⟨rfl, fun _ => rfl, rfl⟩
theorem calm_D (l : List ByteArray) (k : Nat) : Calm (cD l k) := ⟨rfl, fun _ => rfl, rfl⟩
theorem cA_zero : cA 0 = newS 6 := rfl
theorem cA_write (j : Nat) (hj : j < 6) : writeS (cA j) 2 0 (j : Int) cOld = (0, cA (j + 1)) := by
  rw [(calm_A j).write 2 0 j cOld (by decide) cOld_size (by omega) (by show (j : Int) < ((List.replicate 6 zeros140).length : Int); rw [List.length_replicate]; omega)]
  unfold pushS cA
  simp only [List.range_succ, List.map_append]
  rfl
theorem cA_sync : syncS (cA 6) 2 0 = (0, cB) := by
  rw [(calm_A 6).sync 2 0 (by decide)]
  kernel_rfl
theorem cB_write : writeS cB 2 0 5 cTwo = (0, cC) := by
  rw [calm_B.write 2 0 5 cTwo (by decide) cTwo_size (by decide) (by show (5 : Int) < ((List.replicate 6 cOld).length : Int); rw [List.length_replicate]; decide)]
  rfl
theorem cC_D (l : List ByteArray) : cC = cD l 0 := rfl
theorem cD_write (l : List ByteArray) (k : Nat) (hk : k < 5) : writeS (cD l k) 1 0 (k : Int) (fullS (l.getD k ⟨#[]⟩)) = (0, cD l (k + 1)) := by
  rw [(calm_D l k).write 1 0 k _ (by decide) (fullS_size _) (by omega) (by show (k : Int) < ((List.replicate 6 cOld).length : Int); rw [List.length_replicate]; omega)]
  unfold pushS cD pendD
  rw [show min k 5 = k by omega, show min (k + 1) 5 = k + 1 by omega]
  simp only [List.range_succ, List.map_append]
  rfl
theorem cD_skip (l : List ByteArray) (k : Nat) (hk : 5 ≤ k) : cD l (k + 1) = cD l k := by
  unfold cD pendD
  rw [show min k 5 = 5 by omega, show min (k + 1) 5 = 5 by omega]
def wantS (l : List ByteArray) (sv : List Int) (i : Nat) : ByteArray := if i < min l.length 5 then cut (fullS (l.getD i ⟨#[]⟩)) cOld (bytesAt sv i) else cOld
theorem cD_end (l : List ByteArray) (sv : List Int) : ∀ k, k ≤ 5 → (endF (isOf 1) sv ((List.range k).map fun (i : Nat) => (⟨1, (i : Int), fullS (l.getD i ⟨#[]⟩)⟩ : S99)) (0, cD l l.length)).1 = k ∧
    (endF (isOf 1) sv ((List.range k).map fun (i : Nat) => (⟨1, (i : Int), fullS (l.getD i ⟨#[]⟩)⟩ : S99)) (0, cD l l.length)).2.stable = (List.range 6).map (fun i => if i < k then cut (fullS (l.getD i ⟨#[]⟩)) cOld (bytesAt sv i) else cOld)
  | 0, _ => ⟨rfl, rfl⟩
  | k + 1, hk => by
    obtain ⟨h1, h2⟩ := cD_end l sv k (by omega)
    obtain ⟨st, hst⟩ : ∃ st, st = endF (isOf 1) sv ((List.range k).map fun (i : Nat) => (⟨1, (i : Int), fullS (l.getD i ⟨#[]⟩)⟩ : S99)) (0, cD l l.length) := ⟨_, rfl⟩
    rw [← hst] at h1 h2
    have e : endF (isOf 1) sv ((List.range (k + 1)).map fun (i : Nat) => (⟨1, (i : Int), fullS (l.getD i ⟨#[]⟩)⟩ : S99)) (0, cD l l.length) = endStep (isOf 1) sv st ⟨1, (k : Int), fullS (l.getD k ⟨#[]⟩)⟩ := by
      rw [hst]
      unfold endF
      rw [List.range_succ, List.map_append, List.foldl_append]
      rfl
    have hp : isOf 1 (⟨1, (k : Int), fullS (l.getD k ⟨#[]⟩)⟩ : S99) = true := rfl
    rw [e]
    unfold endStep
    rw [if_pos hp]
    refine ⟨by rw [h1], ?_⟩
    unfold endOne
    have hkl : k < st.2.stable.length := by rw [h2]; simp; omega
    have hg : st.2.stable.getD k ⟨#[]⟩ = cOld := by
      rw [h2, List.getD_eq_getElem?_getD, List.getElem?_map, List.getElem?_range (by omega)]
      show (if k < k then _ else cOld) = cOld
      rw [if_neg (by omega)]
    show (changeS ((k : Int)).toNat (cut (fullS (l.getD k ⟨#[]⟩)) (st.2.stable.getD ((k : Int)).toNat ⟨#[]⟩) (bytesAt sv st.1)) st.2).stable = _
    rw [Int.toNat_natCast, hg, h1, change_stable _ _ _ hkl, h2]
    apply List.ext_getElem?
    intro i
    rw [List.getElem?_set, List.getElem?_map, List.getElem?_map]
    by_cases e : k = i
    · subst e
      rw [if_pos rfl, if_pos (by simp; omega), List.getElem?_range (by omega)]
      show some _ = some (if k < k + 1 then _ else _)
      rw [if_pos (by omega)]
    · rw [if_neg e]
      cases hr : (List.range 6)[i]? with
      | none => rfl
      | some x =>
        have hx : x = i := by
          obtain ⟨hl, hxx⟩ := List.getElem?_eq_some_iff.1 hr
          rw [List.getElem_range] at hxx
          exact hxx.symm
        subst hx
        show some (if x < k then _ else _) = some (if x < k + 1 then _ else _)
        by_cases hx : x < k
        · rw [if_pos hx, if_pos (by omega)]
        · rw [if_neg hx, if_neg (by omega)]
theorem cE_facts (l : List ByteArray) (sv : List Int) : (cE l sv).pend = [⟨2, 5, cTwo⟩] ∧ (cE l sv).stable = (List.range 6).map (fun i => wantS l sv i) ∧ (cE l sv).failed = false := by
  have e : (cD l l.length).pend = ⟨2, 5, cTwo⟩ :: pendD l l.length := rfl
  have e2 : endF (isOf 1) sv (cD l l.length).pend (0, cD l l.length) = endF (isOf 1) sv (pendD l l.length) (0, cD l l.length) := rfl
  refine ⟨?_, ?_, ((calm_D l l.length).finish _ _).failed⟩
  · have e0 : (cE l sv).pend = (cD l l.length).pend.filter (fun a => !isOf 1 a) := rfl
    rw [e0, e, List.filter_cons]
    have h1 : (!isOf 1 (⟨2, 5, cTwo⟩ : S99)) = true := rfl
    rw [if_pos h1]
    congr 1
    refine List.filter_eq_nil_iff.2 (fun w hw => ?_)
    unfold pendD at hw
    obtain ⟨i, _, rfl⟩ := List.mem_map.1 hw
    simp [isOf]
  · show (endF (isOf 1) sv (cD l l.length).pend (0, cD l l.length)).2.stable = _
    rw [e2]
    exact (cD_end l sv (min l.length 5) (by omega)).2
theorem fine_A (j : Nat) (hj : j ≤ 6) : Fine j (cA j) := by
  have h := fine_new 6 (by decide) (by decide)
  exact { (h.mono (Nat.zero_le j)) with
    pend := fun w hw => by
      have hw : w ∈ (List.range j).map (fun (i : Nat) => (⟨2, (i : Int), cOld⟩ : S99)) := hw
      obtain ⟨i, hi, rfl⟩ := List.mem_map.1 hw
      have := List.mem_range.1 hi
      refine ⟨by show (1 : Int) ≤ 2; decide, by show (2 : Int) ≤ 4; decide, by show (0 : Int) ≤ i; omega, ?_, cOld_size⟩
      show (i : Int) < ((List.replicate 6 zeros140).length : Int)
      rw [List.length_replicate]; omega
    plen := by show ((List.range j).map _).length ≤ j; rw [List.length_map, List.length_range]; exact Nat.le_refl _ }
theorem fine_B : Fine 0 cB :=
  { len := rfl, n0 := by decide, n1 := by decide
    size := fun s hs => by rw [(List.mem_replicate.1 (show s ∈ List.replicate 6 cOld from hs)).2]; exact cOld_size
    olen := fun l hl => by rw [(List.mem_replicate.1 (show l ∈ List.replicate 6 [zeros140] from hl)).2]; decide
    osize := fun l hl s hs => by
      rw [(List.mem_replicate.1 (show l ∈ List.replicate 6 [zeros140] from hl)).2] at hs
      rw [List.mem_singleton.1 hs]; rfl
    pend := fun w hw => by cases hw
    plen := Nat.le_refl _
    l0 := ⟨Int.le_refl _, by show (0 : Int) ≤ _; decide⟩ }
theorem fine_D (l : List ByteArray) (k : Nat) : Fine 6 (cD l k) :=
  { (fine_B.mono (Nat.zero_le 6)) with
    pend := fun w hw => by
      rcases List.mem_cons.1 (show w ∈ (⟨2, 5, cTwo⟩ : S99) :: pendD l k from hw) with hw | hw
      · rw [hw]; exact ⟨by show (1 : Int) ≤ 2; decide, by show (2 : Int) ≤ 4; decide, by show (0 : Int) ≤ 5; decide, by show (5 : Int) < ((6 : Nat) : Int); decide, cTwo_size⟩
      · unfold pendD at hw
        obtain ⟨i, hi, rfl⟩ := List.mem_map.1 hw
        have := List.mem_range.1 hi
        refine ⟨by show (1 : Int) ≤ 1; decide, by show (1 : Int) ≤ 4; decide, by show (0 : Int) ≤ i; omega, ?_, fullS_size _⟩
        show (i : Int) < ((List.replicate 6 cOld).length : Int)
        rw [List.length_replicate]; omega
    plen := by show (pendD l k).length + 1 ≤ 6; unfold pendD; rw [List.length_map, List.length_range]; omega }
theorem fine_C : Fine 6 cC := fine_D [] 0
theorem cE_read (l : List ByteArray) (sv : List Int) (i : Nat) (hi : i < 5) : readS (cE l sv) (i : Int) = (wantS l sv i, 0) := by
  obtain ⟨h1, h2, h3⟩ := cE_facts l sv
  unfold readS contentS
  rw [h1, h2, h3, if_pos ⟨by omega, by simp; omega⟩, if_neg (by simp)]
  have e : lastOf (i : Int) [(⟨2, 5, cTwo⟩ : S99)] = none := by
    show (if (5 : Int) = (i : Int) then some cTwo else none) = none
    rw [if_neg (by omega)]
  rw [e, Int.toNat_natCast, List.getD_eq_getElem?_getD, List.getElem?_map, List.getElem?_range (by omega)]
  rfl
theorem cE_read5 (l : List ByteArray) (sv : List Int) : readS (cE l sv) 5 = (cTwo, 0) := by
  obtain ⟨h1, h2, h3⟩ := cE_facts l sv
  unfold readS contentS
  rw [h1, h2, h3, if_pos ⟨by omega, by simp⟩, if_neg (by simp)]
  rfl
theorem cE_two (l : List ByteArray) (sv : List Int) : pendN (cE l sv) 2 = 1 := by
  unfold pendN
  rw [(cE_facts l sv).1]
  rfl
theorem cE_one (l : List ByteArray) (sv : List Int) : pendN (cE l sv) 1 = 0 := by
  unfold pendN
  rw [(cE_facts l sv).1]
  rfl
end Go.Proofs.Ytflajmgichdhhaa.PG

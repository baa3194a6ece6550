/- Fence, Return. -/
import Derived.Test.YtflajmgichdhhaaSync
import Derived.BigQuiet


namespace Go.Proofs.Ytflajmgichdhhaa.PG
open Go.RowKit Go.Proofs.YtflajmgichdhhaaW.PrintWords Go.Proofs.YtflajmgichdhhaaW.PrintLast Go.Proofs.YtflajmgichdhhaaW.PrintMore

set_option linter.unusedVariables false
set_option linter.unusedSimpArgs false
/-! ### Fence, Return -/
def fenceS (S : DevS) (sys ep : Int) : DevS :=
  if sys < 1 ∨ 4 < sys then S else if (match S.fences sys with | some f => decide (f < ep) | none => true) = true then { S with fences := fun a => if a = sys then some ep else S.fences a } else S
theorem DevAt.setMap {W W' : World} {B : Nat} {L : Lay} {vs : List Value} {pv uv : Value} {m m' : Ents} {F : Nat → Prop} {S : DevS} (h : DevAt W B L vs pv uv m F S) (hg : W.grownBy W' (some L.bm)) (hm : MapIs W' L.bm m') (fs : Int → Option Int) (hl : ∀ a, look a m' = fs a) :
    DevAt W' B L vs pv uv m' F { S with fences := fs } := by
  have hk : ∀ k, k ≠ L.bm → k < W.heap.size → W'.heap[k]? = W.heap[k]? := fun k hk hlt => hg.block k hlt (fun e => hk (Option.some.inj e))
  have hs := hg.size
  exact
    { hg := (hk _ (h.hm.ne h.hg) (blk_lt h.hg)).trans h.hg
      hs := (hk _ (h.hm.ne h.hs) (blk_lt h.hs)).trans h.hs
      ho := (hk _ (h.hm.ne h.ho) (blk_lt h.ho)).trans h.ho
      hvl := h.hvl
      hv := fun i v x h1 h2 => Kd.V_step (h.hv i v x h1 h2) (fun k hk' hlt => hk k (fun e => hk'.2 (Or.inr (Or.inr (Or.inr (Or.inl e))))) hlt)
      hp := Kd.R_mono (Kd.R_step (Kd.R_bound h.hp) (fun k hk' hlt => hk k (by obtain ⟨_, _, _, q, _, cells, hc⟩ := hk'; exact h.hm.ne hc) hlt)) (fun k hk' => hk'.1)
      hm := hm
      hl := hl
      hu := Kd.V_step h.hu (fun k hk' hlt => hk k (fun e => hk'.2 (Or.inr (Or.inr (Or.inr (Or.inl e))))) hlt)
      hF := h.hF
      hr := fun k hk => by have := h.hr k hk; exact ⟨this.1, by omega⟩ }
set_option maxHeartbeats 1000000 in
set_option maxRecDepth 100000 in
theorem fence_calls {W : World} {B : Nat} {L : Lay} {F : Nat → Prop} {S : DevS} (hI : DevIs W B L F S) (sys ep : Int) :
    Calls Try.prog 27 #[.pointer (some ⟨L.g, 0, none⟩), .int .i64 sys, .int .i64 ep] W fun e W' => e = .returned (.tuple #[]) ∧ DevPost B L F (fenceS S sys ep) W W' := by
  have HI := Aside0.mk hI
  have hB := hI.hB
  unfold fenceS
  by_cases h1 : sys < 1
  · rw [if_pos (Or.inl h1)]
    have hd : decide (sys < 1) = true := decide_eq_true h1
    clear hI h1
    go_enter Try.func27, Try.ntmps27
    go_wp2_with fail
    refine bodyPost_ret (results_none rfl _ _ _) rfl ?_
    exact ⟨rfl, DevPost.same HI.out (Below.refl _ _)⟩
  · have hd : decide (sys < 1) = false := decide_eq_false h1
    by_cases h2 : 4 < sys
    · rw [if_pos (Or.inr h2)]
      have hd2 : decide (4 < sys) = true := decide_eq_true h2
      clear hI h1 h2
      go_enter Try.func27, Try.ntmps27
      go_wp2_with fail
      refine bodyPost_ret (results_none rfl _ _ _) rfl ?_
      exact ⟨rfl, DevPost.same HI.out (Below.refl _ _)⟩
    · rw [if_neg (fun z => z.elim h1 h2)]
      have hd2 : decide (4 < sys) = false := decide_eq_false h2
      obtain ⟨vs, pv, uv, m, hP⟩ := hI
      have c3 := hP.c3
      have hlook : (Instr.lookup 77 (.map (some L.bm)) (.int .i64 sys) true).run Try.prog W = .ok (.tuple #[.int .i64 ((S.fences sys).getD 0), .bool (S.fences sys).isSome]) W := by
        have h := hP.hm.run_look Try.underlying77 zero3 sys true
        rw [hP.hl] at h
        exact h
      obtain ⟨W2, hrun, hm2, hg2⟩ := hP.hm.run_update Try.underlying77 sys ep
      have hrun : (Instr.mapUpdate 77 (.map (some L.bm)) (.int .i64 sys) (.int .i64 ep)).run Try.prog W = .ok () W2 := hrun
      have hset : DevPost B L F { S with fences := fun a => if a = sys then some ep else S.fences a } W W2 := by
        refine ⟨F, ⟨vs, pv, uv, _, hP.setMap hg2 hm2 _ (fun a => ?_)⟩, fun k z => Or.inl z, Kept.of_grown hg2 (Kept.refl _ _) (fun k hk => Or.inl (by cases hk; exact hP.hF.2.2.2)), (Below.refl B W).grown hg2 hB (fun k hk => by cases hk; exact (hP.hr _ hP.hF.2.2.2).1)⟩
        rw [look_upd, hP.hl]
      have HSET := Aside0.mk hset
      clear hset hm2 hg2 hP
      cases hfe : S.fences sys with
      | none =>
        rw [hfe] at hlook
        simp only [Option.getD_none, Option.isSome_none] at hlook
        rw [if_pos rfl]
        clear hfe h1 h2
        go_enter Try.func27, Try.ntmps27
        go_wp2_with fail
        go_end0
        exact ⟨rfl, HSET.out⟩
      | some f =>
        rw [hfe] at hlook
        simp only [Option.getD_some, Option.isSome_some] at hlook
        by_cases h3 : f < ep
        · have hd3 : decide (f < ep) = true := decide_eq_true h3
          rw [if_pos hd3]
          clear hfe h1 h2 h3
          go_enter Try.func27, Try.ntmps27
          go_wp2_with fail
          go_end0
          exact ⟨rfl, HSET.out⟩
        · have hd3 : decide (f < ep) = false := decide_eq_false h3
          rw [if_neg (by show ¬ decide (f < ep) = true; rw [hd3]; simp)]
          clear hfe h1 h2 h3
          go_enter Try.func27, Try.ntmps27
          go_wp2_with fail
          go_end0
          exact ⟨rfl, DevPost.same HI.out (Below.refl _ _)⟩
def returnS (S : DevS) (sec back : Int) : Int × DevS :=
  if (0 ≤ sec ∧ sec < (S.stable.length : Int)) ∧ 1 ≤ back ∧ back ≤ ((S.old.getD sec.toNat []).length : Int) then (0, { S with stable := S.stable.set sec.toNat ((S.old.getD sec.toNat []).getD (back - 1).toNat ⟨#[]⟩) }) else (2, S)
/-- One stable content is written. -/
theorem DevAt.setStable {W : World} {B : Nat} {L : Lay} {vs : List Value} {pv uv : Value} {m : Ents} {F : Nat → Prop} {S : DevS} (h : DevAt W B L vs pv uv m F S) (n : Nat) (d : ByteArray) :
    DevAt (W.setCell ⟨L.sb, n, none⟩ (.string d)) B L vs pv uv m F { S with stable := S.stable.set n d } := by
  have hgs : L.g ≠ L.sb := blk_ne h.hg h.hs (by decide)
  have hos : L.ob ≠ L.sb := blk_ne h.ho h.hs (by decide)
  have hsm : L.sb ≠ L.bm := h.hm.ne h.hs
  have hfar : ∀ k, k ≠ L.sb → (W.setCell ⟨L.sb, n, none⟩ (.string d)).heap[k]? = W.heap[k]? := fun k hk => Below.heap_setCell _ _ _ _ hk
  exact
    { hg := by
        refine (hfar _ hgs).trans (h.hg.trans ?_)
        unfold gcells
        simp only [List.length_set]
      hs := blk_put h.hs n _ (strs_set _ _ _)
      ho := (hfar _ hos).trans h.ho
      hvl := h.hvl
      hv := fun i v x h1 h2 => Kd.V_step (h.hv i v x h1 h2) (fun k hk _ => hfar k (fun e => hk.2 (Or.inr (Or.inl e))))
      hp := Kd.R_mono (Kd.R_step (Kd.R_types h.hp h.hs (by decide)) (fun k hk _ => hfar k hk.2)) (fun k hk => hk.1)
      hm := h.hm.move (hfar _ (fun e => hsm e.symm))
      hl := h.hl
      hu := Kd.V_step h.hu (fun k hk _ => hfar k (fun e => hk.2 (Or.inr (Or.inl e))))
      hF := h.hF
      hr := fun k hk => by have := h.hr k hk; exact ⟨this.1, by simpa [World.setCell] using this.2⟩ }
theorem DevAt.setStablePost {W : World} {B : Nat} {L : Lay} {vs : List Value} {pv uv : Value} {m : Ents} {F : Nat → Prop} {S : DevS} (h : DevAt W B L vs pv uv m F S) (n : Nat) (d : ByteArray) :
    DevPost B L F { S with stable := S.stable.set n d } W (W.setCell ⟨L.sb, n, none⟩ (.string d)) :=
  ⟨F, ⟨vs, pv, uv, m, h.setStable n d⟩, fun k z => Or.inl z, (Kept.refl W F).setCell (Or.inl h.hF.2.1) _, (Below.refl B W).setCell (h.hr _ h.hF.2.1).1 _⟩
set_option maxHeartbeats 1000000 in
set_option maxRecDepth 100000 in
theorem return_calls {W : World} {B : Nat} {L : Lay} {F : Nat → Prop} {S : DevS} {k : Nat} (hI : DevIs W B L F S) (hf : Fine k S) (sec back : Int) :
    Calls Try.prog 26 #[.pointer (some ⟨L.g, 0, none⟩), .int .i64 sec, .int .i64 back] W fun e W' => e = .returned (.int .i64 (returnS S sec back).1) ∧ DevPost B L F (returnS S sec back).2 W W' := by
  have HI := Aside0.mk hI
  have hB := hI.hB
  obtain ⟨vs, pv, uv, m, hP⟩ := hI
  unfold returnS
  by_cases h1 : 0 ≤ sec ∧ sec < (S.stable.length : Int)
  · have HT := Aside0.mk (there_yes hP sec h1.1 h1.2)
    obtain ⟨n, hn⟩ := Int.eq_ofNat_of_zero_le h1.1
    subst hn
    have hns : n < S.stable.length := by omega
    have hno : n < S.old.length := by rw [hf.len]; exact hns
    have hnz : (n : Int) < (S.stable.length : Int) := h1.2
    rw [Int.toNat_natCast]
    have hso : S.old.getD n [] = S.old[n] := by rw [List.getD_eq_getElem?_getD, List.getElem?_eq_getElem hno]; rfl
    rw [hso]
    obtain ⟨A, c, co, hlc, hfo, hvn⟩ := hP.co n hno
    have c0 := hP.c0
    have c1 := hP.c1
    obtain ⟨x0, cs⟩ : ∃ x0, W.cell? ⟨L.sb, n, none⟩ = some (.string x0) := ⟨_, hP.cs n hns⟩
    have fs : W.frozen? ⟨L.sb, n, none⟩ = false := blk_frozen hP.hs n
    obtain ⟨y, hy⟩ : ∃ y, y = S.old[n] := ⟨_, rfl⟩
    rw [← hy] at co hlc hfo hvn ⊢
    have HP := Aside0.mk hP
    have HC := Aside0.mk (Kd.F_now hfo)
    by_cases h2 : 1 ≤ back
    · have hd : decide (back < 1) = false := decide_eq_false (by omega)
      by_cases h3 : back ≤ (y.length : Int)
      · have hd3 : decide ((y.length : Int) < back) = false := decide_eq_false (by omega)
        rw [if_pos ⟨h1, h2, h3⟩]
        obtain ⟨b, hb⟩ := Int.eq_ofNat_of_zero_le (show 0 ≤ back - 1 by omega)
        have hbl : b < y.length := by omega
        obtain ⟨ad, e, q0⟩ := Kd.at_string HC.out (b : Int) (by omega) (by omega)
        have hbe : back = (b : Int) + 1 := by omega
        rw [Int.toNat_natCast] at q0
        have hrd : rdOf ByteArray.empty y (b : Int) = y[b] := by unfold rdOf; rw [Int.toNat_natCast, List.getD_eq_getElem?_getD, List.getElem?_eq_getElem hbl]; rfl
        rw [hrd] at q0
        have hgd : y.getD (back - 1).toNat ⟨#[]⟩ = y[b] := by rw [hb, Int.toNat_natCast, List.getD_eq_getElem?_getD, List.getElem?_eq_getElem hbl]; rfl
        rw [hgd]
        obtain ⟨x, hx⟩ : ∃ x, x = y[b] := ⟨_, rfl⟩
        rw [← hx] at q0 ⊢
        subst e
        subst hbe
        have hbz : (b : Int) < (y.length : Int) := by omega
        have hb1 : (b : Int) + 1 - 1 = (b : Int) := by omega
        have hm9 : (y.length : Int) ≤ 9223372036854775807 := by have := Kd.C_max HC.out; omega
        have hw1 : IntKind.i64.wrap (b : Int) = (b : Int) := by rw [IntKind.wrap_i64]; omega
        have hw2 : wrap64 (b : Int) = (b : Int) := by unfold wrap64; omega
        clear hm9
        clear hP hf h1 h3 hso hy hfo hvn hb hbl hrd hgd hx hns hno h2
        go_enter Try.func26, Try.ntmps26
        go_wp2_with fail
        refine HT.out.mono ?_
        rintro e W2 ⟨rfl, rfl⟩
        go_wp2_with fail
        go_region
        go_wp2_with fail
        go_ret
        exact ⟨rfl, (HP.out.setStablePost n x).then_ (fun F1 h1 => DevPost.same h1 (below_drewN (Below.refl _ _) 1))⟩
      · have hd3 : decide ((y.length : Int) < back) = true := decide_eq_true (by omega)
        rw [if_neg (fun z => h3 z.2.2)]
        clear hP hf h1 h3 hso hy hfo hvn hns hno h2
        go_enter Try.func26, Try.ntmps26
        go_wp2_with fail
        refine HT.out.mono ?_
        rintro e W2 ⟨rfl, rfl⟩
        go_wp2_with fail
        go_ret
        exact ⟨rfl, DevPost.same HI.out (Below.refl _ _)⟩
    · have hd : decide (back < 1) = true := decide_eq_true (by omega)
      rw [if_neg (fun z => h2 z.2.1)]
      clear hP hf h1 hso hy hfo hvn hns hno h2
      go_enter Try.func26, Try.ntmps26
      go_wp2_with fail
      refine HT.out.mono ?_
      rintro e W2 ⟨rfl, rfl⟩
      go_wp2_with fail
      go_ret
      exact ⟨rfl, DevPost.same HI.out (Below.refl _ _)⟩
  · have HT := Aside0.mk (there_no hP sec h1)
    rw [if_neg (fun z => h1 z.1)]
    clear hP hf h1
    go_enter Try.func26, Try.ntmps26
    go_wp2_with fail
    refine HT.out.mono ?_
    rintro e W2 ⟨rfl, rfl⟩
    go_wp2_with fail
    go_ret
    exact ⟨rfl, DevPost.same HI.out (Below.refl _ _)⟩
end Go.Proofs.Ytflajmgichdhhaa.PG

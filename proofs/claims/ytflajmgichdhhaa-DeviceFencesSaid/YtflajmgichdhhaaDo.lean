/- do, and what stays true of a device through it. -/
import Derived.Test.YtflajmgichdhhaaOps
import Derived.BigQuiet
import Derived.Test.YtflajmgichdhhaaOpens

namespace Go.Proofs.Ytflajmgichdhhaa.PG
open Go.RowKit Go.Proofs.YtflajmgichdhhaaW.PrintWords Go.Proofs.YtflajmgichdhhaaW.PrintLast Go.Proofs.YtflajmgichdhhaaW.PrintMore

set_option linter.unusedVariables false
set_option linter.unusedSimpArgs false
/-! ### do -/
def repairS (S : DevS) : DevS := { S with failed := false, fset := false, left := 0, surv := [] }
def doS (o : S37) (S : DevS) : Int × DevS :=
  if o.f0 % 8 = 0 then writeS S o.f1.f0 o.f1.f1 o.f2 o.f3 else if o.f0 % 8 = 1 then syncS S o.f1.f0 o.f1.f1 else if o.f0 % 8 = 2 then (0, finishS (isOf o.f1.f0) o.f6 S) else if o.f0 % 8 = 3 then (0, fenceS S o.f1.f0 o.f1.f1)
  else if o.f0 % 8 = 4 then (0, failS S o.f4 o.f6) else if o.f0 % 8 = 5 then (0, repairS S) else if o.f0 % 8 = 6 then damageS S o.f2 o.f4 o.f5 else returnS S o.f2 o.f4
/-- Fine, and the numbers for a failure are few. -/
structure Good (k : Nat) (S : DevS) : Prop where
  fine : Fine k S
  surv : S.surv.length ≤ 1000000
theorem Good.sl {k : Nat} {S : DevS} (h : Good k S) : S.surv.length ≤ 4611686018427387904 := Nat.le_trans h.surv (by decide)
theorem Good.mono {k k' : Nat} {S : DevS} (h : Good k S) (hk : k ≤ k') : Good k' S := ⟨h.fine.mono hk, h.surv⟩
theorem surv_finish (p : S99 → Bool) (l : List Int) (S : DevS) : (finishS p l S).surv = S.surv := (endF_same p l S.pend (0, S)).surv
theorem Good.finish {k : Nat} {S : DevS} (h : Good k S) (p : S99 → Bool) (l : List Int) : Good k (finishS p l S) := ⟨h.fine.finish p l, by rw [surv_finish]; exact h.surv⟩
theorem surv_admit (S : DevS) (sys ep : Int) (n : Nat) (h : S.surv.length ≤ n) : (admitS S sys ep).2.surv.length ≤ n := by
  unfold admitS
  split
  · exact h
  · split
    · exact h
    · split
      · exact h
      · split
        · exact h
        · show (finishS isAny S.surv (blown S)).surv.length ≤ n
          rw [surv_finish]
          exact Nat.zero_le _
theorem Good.admit {k : Nat} {S : DevS} (h : Good k S) (sys ep : Int) : Good k (admitS S sys ep).2 := ⟨h.fine.admit sys ep, surv_admit S sys ep _ h.surv⟩
theorem Good.write {k : Nat} {S : DevS} (h : Good k S) (sys ep sec : Int) (d : ByteArray) : Good (k + 1) (writeS S sys ep sec d).2 := by
  refine ⟨fine_w h.fine sys ep sec d, ?_⟩
  have ha := surv_admit S sys ep _ h.surv
  unfold writeS
  split
  · split
    · split
      · exact ha
      · exact ha
    · exact h.surv
  · exact h.surv
theorem Good.sync {k : Nat} {S : DevS} (h : Good k S) (sys ep : Int) : Good k (syncS S sys ep).2 := by
  unfold syncS
  split
  · split
    · exact (h.admit sys ep).finish _ _
    · exact h.admit sys ep
  · exact h
theorem Good.fence {k : Nat} {S : DevS} (h : Good k S) (sys ep : Int) : Good k (fenceS S sys ep) := by
  refine ⟨h.fine.fence sys ep, ?_⟩
  have key : ∀ b : Bool, (if b = true then { S with fences := fun a => if a = sys then some ep else S.fences a } else S).surv.length ≤ 1000000 := fun b => by
    cases b
    · exact h.surv
    · exact h.surv
  unfold fenceS
  split
  · exact h.surv
  · exact key _
theorem Good.fail {k : Nat} {S : DevS} (h : Good k S) (n : Int) (l : List Int) (hn : n ≤ 9223372036854775807) (hl : l.length ≤ 1000000) : Good k (failS S n l) := by
  unfold failS
  split
  · exact h
  · exact ⟨{ h.fine with l0 := ⟨by show 0 ≤ max 0 n; omega, by show max 0 n ≤ _; omega⟩ }, hl⟩
theorem Good.repair {k : Nat} {S : DevS} (h : Good k S) : Good k (repairS S) := ⟨{ h.fine with l0 := ⟨Int.le_refl _, by show (0 : Int) ≤ _; decide⟩ }, Nat.zero_le _⟩
theorem Good.setStable {k : Nat} {S : DevS} (h : Good k S) (n : Nat) (d : ByteArray) (hd : d.size = 140) : Good k { S with stable := S.stable.set n d } := by
  refine ⟨{ h.fine with len := by simp [h.fine.len], n0 := by simpa using h.fine.n0, n1 := by simpa using h.fine.n1, size := ?_, pend := ?_ }, h.surv⟩
  · intro s hs
    rcases List.mem_or_eq_of_mem_set hs with hs | hs
    · exact h.fine.size s hs
    · rw [hs]; exact hd
  · intro w hw
    have := h.fine.pend w hw
    simpa using this
theorem Good.damage {k : Nat} {S : DevS} (h : Good k S) (sec at_ mask : Int) : Good k (damageS S sec at_ mask).2 := by
  unfold damageS
  split
  · rename_i h1
    split
    · exact h
    · exact h.setStable _ _ (by rw [damB_size]; exact h.fine.size _ (getD_mem _ _ _ (by omega)))
  · exact h
theorem Good.ret {k : Nat} {S : DevS} (h : Good k S) (sec back : Int) : Good k (returnS S sec back).2 := by
  unfold returnS
  split
  · rename_i h1
    refine h.setStable _ _ (h.fine.osize _ (getD_mem S.old sec.toNat [] (by rw [h.fine.len]; omega)) _ (getD_mem _ _ _ (by omega)))
  · exact h
theorem Good.do {k : Nat} {S : DevS} (h : Good k S) (o : S37) (hw : Opens.OpWf o) (hl : o.f6.length ≤ 1000000) : Good (k + 1) (doS o S).2 := by
  unfold doS
  split
  · exact h.write _ _ _ _
  · split
    · exact (h.sync _ _).mono (Nat.le_succ _)
    · split
      · exact (h.finish _ _).mono (Nat.le_succ _)
      · split
        · exact (h.fence _ _).mono (Nat.le_succ _)
        · split
          · exact (h.fail _ _ hw.n.2 hl).mono (Nat.le_succ _)
          · split
            · exact h.repair.mono (Nat.le_succ _)
            · split
              · exact (h.damage _ _ _).mono (Nat.le_succ _)
              · exact (h.ret _ _).mono (Nat.le_succ _)
def opCells (o : S37) (A : Option Addr) (c : Nat) : Array Value := #[.int .u8 o.f0, .int .i64 o.f1.f0, .int .i64 o.f1.f1, .int .i64 o.f2, .string o.f3, .int .i64 o.f4, .int .u8 o.f5, .slice A o.f6.length c]
set_option maxHeartbeats 2000000 in
set_option maxRecDepth 100000 in
theorem do_calls {W : World} {B : Nat} {L : Lay} {F : Nat → Prop} {S : DevS} {k : Nat} (hI : DevIs W B L F S) (hg : Good k S) (hk : k ≤ 1000000) (o : S37) (hw : Opens.OpWf o) (A : Option Addr) (c : Nat) (hl : Kd.F (Kd.int .i64) W (fun k => ¬ F k) A o.f6.length o.f6) (hlc : o.f6.length ≤ c) (hlm : o.f6.length ≤ 1000000) :
    Calls Try.prog 14 #[.pointer (some ⟨L.g, 0, none⟩), .agg (opCells o A c)] W fun e W' => e = .returned (.int .i64 (doS o S).1) ∧ DevPost B L F (doS o S).2 W W' := by
  have hB := hI.hB
  obtain ⟨W1, hW1⟩ : ∃ W1, W1 = W.alloc (.cells (opCells o A c) 37) := ⟨_, rfl⟩
  have hb1 : Below W.heap.size W W1 := by rw [hW1]; exact below_alloc (Below.refl _ _) _
  have hI1 := hI.below hb1
  have hx : W1.heap[W.heap.size]? = some (.cells (opCells o A c) 37 (0, 0)) := by rw [hW1]; exact blk_new _ _
  have hl1 := Kd.F_below hl hb1
  have H1 := Aside0.mk hI1
  have HB1 := Aside0.mk hb1
  have HG := Aside0.mk hg
  have HL := Aside0.mk hl1
  have HWF := Aside0.mk hw
  have hk0 := hw.kind.1
  have hk1 := hw.kind.2
  obtain ⟨kd, hkd⟩ : ∃ kd, kd = o.f0 % 8 := ⟨_, rfl⟩
  have hkb : 0 ≤ kd ∧ kd < 8 := by omega
  have HWK := Aside0.mk hW1
  unfold doS
  rw [← hkd]
  have HKD := Aside0.mk hkd.symm
  clear hkd
  unfold opCells at hW1 ⊢
  clear hI hI1 hb1 hg hl hl1 hw hx HWK
  by_cases c0 : kd = 0
  · have d0 : (o.f0 % 8 == 0) = true := by rw [HKD.out, c0]; rfl
    rw [if_pos c0]
    have HC := Aside0.mk (write_calls H1.out HG.out.fine hk HG.out.sl o.f1.f0 o.f1.f1 o.f2 o.f3)
    clear hkb c0
    subst hW1
    go_enter Try.func14, Try.ntmps14
    go_wp2_with fail
    refine HC.out.mono ?_
    rintro e W2 ⟨rfl, hp⟩
    have HP := Aside0.mk (hp.after HB1.out hB)
    clear hp HC
    go_wp2_with fail
    go_ret
    exact ⟨rfl, HP.out⟩
  · have d0 : (o.f0 % 8 == 0) = false := beq_eq_false_iff_ne.2 (by rw [HKD.out]; exact c0)
    by_cases c1 : kd = 1
    · have d1 : (o.f0 % 8 == 1) = true := by rw [HKD.out, c1]; rfl
      rw [if_neg c0]
      rw [if_pos c1]
      have HC := Aside0.mk (sync_calls H1.out HG.out.fine hk HG.out.sl o.f1.f0 o.f1.f1)
      clear hkb c0 c1
      subst hW1
      go_enter Try.func14, Try.ntmps14
      go_wp2_with fail
      refine HC.out.mono ?_
      rintro e W2 ⟨rfl, hp⟩
      have HP := Aside0.mk (hp.after HB1.out hB)
      clear hp HC
      go_wp2_with fail
      go_ret
      exact ⟨rfl, HP.out⟩
    · have d1 : (o.f0 % 8 == 1) = false := beq_eq_false_iff_ne.2 (by rw [HKD.out]; exact c1)
      by_cases c2 : kd = 2
      · have d2 : (o.f0 % 8 == 2) = true := by rw [HKD.out, c2]; rfl
        rw [if_neg c0]
        rw [if_neg c1]
        rw [if_pos c2]
        have HC := Aside0.mk (crash_calls H1.out HG.out.fine hk o.f1.f0 A c o.f6 HL.out hlc (Nat.le_trans hlm (by decide)))
        clear hkb c0 c1 c2
        subst hW1
        go_enter Try.func14, Try.ntmps14
        go_wp2_with fail
        refine HC.out.mono ?_
        rintro e W2 ⟨rfl, hp⟩
        have HP := Aside0.mk (hp.after HB1.out hB)
        clear hp HC
        go_wp2_with fail
        go_ret
        exact ⟨rfl, HP.out⟩
      · have d2 : (o.f0 % 8 == 2) = false := beq_eq_false_iff_ne.2 (by rw [HKD.out]; exact c2)
        by_cases c3 : kd = 3
        · have d3 : (o.f0 % 8 == 3) = true := by rw [HKD.out, c3]; rfl
          rw [if_neg c0]
          rw [if_neg c1]
          rw [if_neg c2]
          rw [if_pos c3]
          have HC := Aside0.mk (fence_calls H1.out o.f1.f0 o.f1.f1)
          clear hkb c0 c1 c2 c3
          subst hW1
          go_enter Try.func14, Try.ntmps14
          go_wp2_with fail
          refine HC.out.mono ?_
          rintro e W2 ⟨rfl, hp⟩
          have HP := Aside0.mk (hp.after HB1.out hB)
          clear hp HC
          go_wp2_with fail
          go_ret
          exact ⟨rfl, HP.out⟩
        · have d3 : (o.f0 % 8 == 3) = false := beq_eq_false_iff_ne.2 (by rw [HKD.out]; exact c3)
          by_cases c4 : kd = 4
          · have d4 : (o.f0 % 8 == 4) = true := by rw [HKD.out, c4]; rfl
            rw [if_neg c0]
            rw [if_neg c1]
            rw [if_neg c2]
            rw [if_neg c3]
            rw [if_pos c4]
            have HC := Aside0.mk (failafter_calls H1.out o.f4 A c o.f6 (Kd.F_now HL.out) hlm)
            clear hkb c0 c1 c2 c3 c4
            subst hW1
            go_enter Try.func14, Try.ntmps14
            go_wp2_with fail
            refine HC.out.mono ?_
            rintro e W2 ⟨rfl, hp⟩
            have HP := Aside0.mk (hp.after HB1.out hB)
            clear hp HC
            go_wp2_with fail
            go_ret
            exact ⟨rfl, HP.out⟩
          · have d4 : (o.f0 % 8 == 4) = false := beq_eq_false_iff_ne.2 (by rw [HKD.out]; exact c4)
            by_cases c5 : kd = 5
            · have d5 : (o.f0 % 8 == 5) = true := by rw [HKD.out, c5]; rfl
              rw [if_neg c0]
              rw [if_neg c1]
              rw [if_neg c2]
              rw [if_neg c3]
              rw [if_neg c4]
              rw [if_pos c5]
              have HC := Aside0.mk (repair_calls H1.out)
              clear hkb c0 c1 c2 c3 c4 c5
              subst hW1
              go_enter Try.func14, Try.ntmps14
              go_wp2_with fail
              refine HC.out.mono ?_
              rintro e W2 ⟨rfl, hp⟩
              have HP := Aside0.mk (hp.after HB1.out hB)
              clear hp HC
              go_wp2_with fail
              go_ret
              exact ⟨rfl, HP.out⟩
            · have d5 : (o.f0 % 8 == 5) = false := beq_eq_false_iff_ne.2 (by rw [HKD.out]; exact c5)
              by_cases c6 : kd = 6
              · have d6 : (o.f0 % 8 == 6) = true := by rw [HKD.out, c6]; rfl
                rw [if_neg c0]
                rw [if_neg c1]
                rw [if_neg c2]
                rw [if_neg c3]
                rw [if_neg c4]
                rw [if_neg c5]
                rw [if_pos c6]
                have HC := Aside0.mk (damage_calls H1.out HG.out.fine o.f2 o.f4 o.f5 HWF.out.mask.1 HWF.out.mask.2)
                clear hkb c0 c1 c2 c3 c4 c5 c6
                subst hW1
                go_enter Try.func14, Try.ntmps14
                go_wp2_with fail
                refine HC.out.mono ?_
                rintro e W2 ⟨rfl, hp⟩
                have HP := Aside0.mk (hp.after HB1.out hB)
                clear hp HC
                go_wp2_with fail
                go_ret
                exact ⟨rfl, HP.out⟩
              · have d6 : (o.f0 % 8 == 6) = false := beq_eq_false_iff_ne.2 (by rw [HKD.out]; exact c6)
                have c7 : kd = 7 := by omega
                rw [if_neg c0]
                rw [if_neg c1]
                rw [if_neg c2]
                rw [if_neg c3]
                rw [if_neg c4]
                rw [if_neg c5]
                rw [if_neg c6]
                have HC := Aside0.mk (return_calls H1.out HG.out.fine o.f2 o.f4)
                clear hkb c0 c1 c2 c3 c4 c5 c6 c7
                subst hW1
                go_enter Try.func14, Try.ntmps14
                go_wp2_with fail
                refine HC.out.mono ?_
                rintro e W2 ⟨rfl, hp⟩
                have HP := Aside0.mk (hp.after HB1.out hB)
                clear hp HC
                go_wp2_with fail
                go_ret
                exact ⟨rfl, HP.out⟩
end Go.Proofs.Ytflajmgichdhhaa.PG

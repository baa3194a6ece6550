/- admit: whether a writer may write. -/
import Derived.Test.YtflajmgichdhhaaFin
import Derived.BigQuiet


namespace Go.Proofs.Ytflajmgichdhhaa.PG
open Go.RowKit Go.Proofs.YtflajmgichdhhaaW.PrintWords Go.Proofs.YtflajmgichdhhaaW.PrintLast Go.Proofs.YtflajmgichdhhaaW.PrintMore

set_option linter.unusedVariables false
set_option linter.unusedSimpArgs false
/-! ### admit -/
def fencedS (S : DevS) (sys ep : Int) : Bool := match S.fences sys with | some f => decide (ep ≤ f) | none => false
def blown (S : DevS) : DevS := { S with failed := true, fset := false, left := 0, surv := [] }
def admitS (S : DevS) (sys ep : Int) : Int × DevS :=
  if S.failed = true then (10, S) else if fencedS S sys ep = true then (13, S) else if S.fset = false then (0, S) else if 0 < S.left then (0, { S with left := S.left - 1 }) else (10, finishS isAny S.surv (blown S))
theorem DevAt.setG {W W' : World} {B : Nat} {L : Lay} {vs : List Value} {pv uv : Value} {m : Ents} {F : Nat → Prop} {S : DevS} (h : DevAt W B L vs pv uv m F S) (uv' : Value) (S' : DevS) (e1 : S'.stable = S.stable) (e2 : S'.old = S.old) (e3 : S'.pend = S.pend) (e4 : S'.fences = S.fences)
    (hg : W'.heap[L.g]? = some (.cells (gcells L pv uv' S') 81 (0, 0))) (hk : ∀ k, k ≠ L.g → k < W.heap.size → W'.heap[k]? = W.heap[k]?) (hs : W.heap.size ≤ W'.heap.size) (hu : Kd.V (Kd.int .i64) 3 W' 0 (Fr L pv F) uv' S'.surv) : DevAt W' B L vs pv uv' m F S' := by
  have hgo : L.g ≠ L.ob := blk_ne h.hg h.ho (by decide)
  have hgs : L.g ≠ L.sb := blk_ne h.hg h.hs (by decide)
  have hgm : L.g ≠ L.bm := h.hm.ne h.hg
  exact
    { hg := hg
      hs := by rw [e1]; exact (hk _ (fun e => hgs e.symm) (blk_lt h.hs)).trans h.hs
      ho := (hk _ (fun e => hgo e.symm) (blk_lt h.ho)).trans h.ho
      hvl := by rw [e2]; exact h.hvl
      hv := fun i v x h1 h2 => by
        rw [e2] at h2
        exact Kd.V_step (h.hv i v x h1 h2) (fun k hk' hlt => hk k (fun e => hk'.2 (Or.inl e)) hlt)
      hp := by
        rw [e3]
        exact Kd.R_mono (Kd.R_step (Kd.R_types h.hp h.hg (by decide)) (fun k hk' hlt => hk k hk'.2 hlt)) (fun k hk' => hk'.1)
      hm := h.hm.move (hk _ (fun e => hgm e.symm) h.hm.lt)
      hl := by rw [e4]; exact h.hl
      hu := hu
      hF := h.hF
      hr := fun k hk => by have := h.hr k hk; exact ⟨this.1, by omega⟩ }
/-- The fuse and the mark of a failure are written. -/
theorem DevAt.blow {W : World} {B : Nat} {L : Lay} {vs : List Value} {pv uv : Value} {m : Ents} {F : Nat → Prop} {S : DevS} (h : DevAt W B L vs pv uv m F S) (b : Bool) :
    DevAt ((((W.setCell ⟨L.g, 7, none⟩ (.bool b)).setCell ⟨L.g, 4, none⟩ (.bool false)).setCell ⟨L.g, 5, none⟩ (.int .i64 0)).setCell ⟨L.g, 6, none⟩ (.slice none 0 0)) B L vs pv (.slice none 0 0) m F { S with failed := b, fset := false, left := 0, surv := [] } := by
  refine h.setG _ _ rfl rfl rfl rfl ?_ (fun k hk _ => ?_) (by simp [World.setCell]) (Kd.V_nil _ _ _ _ _)
  · exact blk_put (blk_put (blk_put (blk_put h.hg 7 _ rfl) 4 _ rfl) 5 _ rfl) 6 _ (by rfl)
  · exact (Below.heap_setCell _ _ _ _ hk).trans ((Below.heap_setCell _ _ _ _ hk).trans ((Below.heap_setCell _ _ _ _ hk).trans (Below.heap_setCell _ _ _ _ hk)))
theorem Fine.blown {k : Nat} {S : DevS} (h : Fine k S) : Fine k (blown S) := { h with l0 := ⟨Int.le_refl _, (by decide : (0 : Int) ≤ 9223372036854775807)⟩ }
theorem zero3 (w : World) : (zeroValue 3).run Try.prog w = .ok (.int .i64 0) w := by kernel_rfl
set_option maxHeartbeats 4000000 in
set_option maxRecDepth 100000 in
theorem admit_calls {W : World} {B : Nat} {L : Lay} {F : Nat → Prop} {S : DevS} {k : Nat} (hI : DevIs W B L F S) (hf : Fine k S) (hk : k ≤ 1000000) (hsl : S.surv.length ≤ 4611686018427387904) (sys ep : Int) :
    Calls Try.prog 50 #[.pointer (some ⟨L.g, 0, none⟩), .agg #[.int .i64 sys, .int .i64 ep]] W fun e W' => e = .returned (.int .i64 (admitS S sys ep).1) ∧ DevPost B L F (admitS S sys ep).2 W W' := by
  obtain ⟨vs, pv, uv, m, hP⟩ := hI
  have hb1 := below_alloc (Below.refl W.heap.size W) (.cells #[.int .i64 sys, .int .i64 ep] 35)
  have hP1 := hP.below hb1
  have lg := hP.lg
  have c7 := hP.c7
  have hB : B ≤ W.heap.size := by have := hP.hr _ hP.hF.1; omega
  have HI := Aside0.mk (show DevIs W B L F S from ⟨vs, pv, uv, m, hP⟩)
  have HB1 := Aside0.mk hb1
  have HP1 := Aside0.mk hP1
  have HF := Aside0.mk hf
  unfold admitS
  cases hfa : S.failed with
  | true =>
    rw [if_pos rfl]
    rw [hfa] at c7
    clear hP hP1 hf hb1 hfa
    go_enter Try.func50, Try.ntmps50
    go_wp2_with fail
    go_ret
    exact ⟨rfl, DevPost.same HI.out HB1.out⟩
  | false =>
    rw [if_neg (by simp)]
    rw [hfa] at c7
    have c3 := hP.c3
    have hlook : ∀ n, (Instr.lookup 77 (.map (some L.bm)) (.int .i64 sys) true).run Try.prog ((W.alloc (.cells #[.int .i64 sys, .int .i64 ep] 35)).drewN n) = .ok (.tuple #[.int .i64 ((S.fences sys).getD 0), .bool (S.fences sys).isSome]) ((W.alloc (.cells #[.int .i64 sys, .int .i64 ep] 35)).drewN n) := fun n => by
      have h := (show MapIs ((W.alloc (.cells #[.int .i64 sys, .int .i64 ep] 35)).drewN n) L.bm m from hP1.hm).run_look Try.underlying77 zero3 sys true
      rw [hP.hl] at h
      exact h
    have c4 := hP.c4
    have c5 := hP.c5
    have c6 := hP.c6
    have f5 := hP.fg 5
    have hl0 := hf.l0
    have fin : fencedS S sys ep = true ∨ fencedS S sys ep = false := by cases fencedS S sys ep <;> simp
    -- what comes behind the fences' test, whichever way it went
    cases hfe : S.fences sys with
    | some fv =>
      have hfd : fencedS S sys ep = decide (ep ≤ fv) := by unfold fencedS; rw [hfe]
      rw [hfe] at hlook
      rw [hfd]
      simp only [Option.getD_some, Option.isSome_some] at hlook
      by_cases hle : ep ≤ fv
      · rw [if_pos (decide_eq_true hle)]
        have hd : decide (ep ≤ fv) = true := decide_eq_true hle
        clear hP hP1 hf hb1 hfa hfe hfd fin hle
        go_enter Try.func50, Try.ntmps50
        go_wp2_with fail
        go_quiet (fail)
        go_wp2_with fail
        go_ret
        exact ⟨rfl, (DevPost.same HI.out HB1.out).drewN _⟩
      · rw [if_neg (by simpa using hle)]
        have hd : decide (ep ≤ fv) = false := decide_eq_false hle
        clear hle
        cases hfs : S.fset with
        | false =>
          rw [if_pos rfl]
          rw [hfs] at c4
          clear hP hP1 hf hb1 hfa hfe hfd fin hfs
          go_enter Try.func50, Try.ntmps50
          go_wp2_with fail
          go_quiet (fail)
          go_wp2_with fail
          go_ret
          exact ⟨rfl, (DevPost.same HI.out HB1.out).drewN _⟩
        | true =>
          rw [if_neg (by simp)]
          rw [hfs] at c4
          by_cases hlf : 0 < S.left
          · rw [if_pos hlf]
            have hd2 : decide (0 < S.left) = true := decide_eq_true hlf
            have HL0 := Aside0.mk hl0
            have HFS := Aside0.mk hfs
            have HFA := Aside0.mk hfa
            have hl1 : S.left ≤ 9223372036854775807 := hl0.2
            clear hP hP1 hf hb1 hfa hfe hfd fin hfs hl0
            go_enter Try.func50, Try.ntmps50
            go_wp2_with fail
            go_quiet (fail)
            obtain ⟨Wq, hWq⟩ : ∃ Wq, Wq = (W.alloc (.cells #[.int .i64 sys, .int .i64 ep] 35)).drewN nq := ⟨_, rfl⟩
            have HQ := Aside0.mk (show Below W.heap.size W Wq by rw [hWq]; exact below_drewN HB1.out nq)
            have PQ := Aside0.mk (HP1.out.below (W' := Wq) (by rw [hWq]; exact below_drewN (Below.refl _ _) nq))
            have qw : Wq.cell? ⟨W.heap.size, 1, none⟩ = some (.int .i64 ep) := by rw [hWq, blk_cell (show ((W.alloc (.cells #[.int .i64 sys, .int .i64 ep] 35)).drewN nq).heap[W.heap.size]? = some (.cells #[.int .i64 sys, .int .i64 ep] 35 (0, 0)) from blk_new W _)]; rfl
            have q4 : Wq.cell? ⟨L.g, 4, none⟩ = some (.bool true) := by rw [hWq]; exact (HB1.out.cell (p := ⟨L.g, 4, none⟩) lg).trans c4
            have q5 : Wq.cell? ⟨L.g, 5, none⟩ = some (.int .i64 S.left) := PQ.out.c5
            have qf : Wq.frozen? ⟨L.g, 5, none⟩ = false := PQ.out.fg 5
            rw [← hWq]
            clear hWq c3 c4 c5 c6 c7 f5 hlook
            go_wp2_with fail
            go_ret
            refine ⟨rfl, F, ⟨vs, pv, uv, m, PQ.out.setG uv _ rfl rfl rfl rfl (blk_put PQ.out.hg 5 _ (by unfold gcells; rw [HFS.out, HFA.out]; rfl)) (fun k hk _ => Below.heap_setCell _ _ _ _ hk) (by simp [World.setCell]) (Kd.V_step PQ.out.hu (fun k hk _ => Below.heap_setCell _ _ _ _ (fun e => hk.2 (Or.inl e))))⟩, fun k z => Or.inl z, (Kept.of_below HQ.out F).setCell (Or.inl PQ.out.hF.1) _, (HQ.out.mono hB).setCell (PQ.out.hr _ PQ.out.hF.1).1 _⟩
          · rw [if_neg hlf]
            have hd2 : decide (0 < S.left) = false := decide_eq_false hlf
            obtain ⟨A, c, hu1, hu2, hu3⟩ := hP.hu
            subst hu1
            clear hP hf hb1 hfa hfe hfd fin hfs hl0 hlf hP1 hu3
            go_enter Try.func50, Try.ntmps50
            go_wp2_with fail
            go_quiet (fail)
            obtain ⟨Wq, hWq⟩ : ∃ Wq, Wq = (W.alloc (.cells #[.int .i64 sys, .int .i64 ep] 35)).drewN nq := ⟨_, rfl⟩
            have HQ := Aside0.mk (show Below W.heap.size W Wq by rw [hWq]; exact below_drewN HB1.out nq)
            have PQ := Aside0.mk (HP1.out.below (W' := Wq) (by rw [hWq]; exact below_drewN (Below.refl _ _) nq))
            have qw : Wq.cell? ⟨W.heap.size, 1, none⟩ = some (.int .i64 ep) := by rw [hWq, blk_cell (show ((W.alloc (.cells #[.int .i64 sys, .int .i64 ep] 35)).drewN nq).heap[W.heap.size]? = some (.cells #[.int .i64 sys, .int .i64 ep] 35 (0, 0)) from blk_new W _)]; rfl
            have q4 : Wq.cell? ⟨L.g, 4, none⟩ = some (.bool true) := by rw [hWq]; exact (HB1.out.cell (p := ⟨L.g, 4, none⟩) lg).trans c4
            have q5 : Wq.cell? ⟨L.g, 5, none⟩ = some (.int .i64 S.left) := PQ.out.c5
            have q6 : Wq.cell? ⟨L.g, 6, none⟩ = some (.slice A S.surv.length c) := PQ.out.c6
            have q7 : Wq.cell? ⟨L.g, 7, none⟩ = some (.bool false) := by rw [hWq]; exact (HB1.out.cell (p := ⟨L.g, 7, none⟩) lg).trans c7
            have qf4 : Wq.frozen? ⟨L.g, 4, none⟩ = false := PQ.out.fg 4
            have qf5 : Wq.frozen? ⟨L.g, 5, none⟩ = false := PQ.out.fg 5
            have qf6 : Wq.frozen? ⟨L.g, 6, none⟩ = false := PQ.out.fg 6
            have qf7 : Wq.frozen? ⟨L.g, 7, none⟩ = false := PQ.out.fg 7
            rw [← hWq]
            have hbl := PQ.out.blow true
            have hfin := finish_calls hbl HF.out.blown hk 59 #[] isAny (matchAny _ _) A c S.surv
              (Kd.F_step (Kd.F_mono (Kd.V_F PQ.out.hu) (fun k hk => hk.2)) (fun k hk _ => (Below.heap_setCell _ _ _ _ (fun e => hk (Or.inl e))).trans ((Below.heap_setCell _ _ _ _ (fun e => hk (Or.inl e))).trans ((Below.heap_setCell _ _ _ _ (fun e => hk (Or.inl e))).trans (Below.heap_setCell _ _ _ _ (fun e => hk (Or.inl e))))))) hu2 hsl
            have HFIN := Aside0.mk hfin
            have hkb : Kept W ((((Wq.setCell ⟨L.g, 7, none⟩ (.bool true)).setCell ⟨L.g, 4, none⟩ (.bool false)).setCell ⟨L.g, 5, none⟩ (.int .i64 0)).setCell ⟨L.g, 6, none⟩ (.slice none 0 0)) F := ((((Kept.of_below HQ.out F).setCell (p := ⟨L.g, 7, none⟩) (Or.inl PQ.out.hF.1) _).setCell (p := ⟨L.g, 4, none⟩) (Or.inl PQ.out.hF.1) _).setCell (p := ⟨L.g, 5, none⟩) (Or.inl PQ.out.hF.1) _).setCell (p := ⟨L.g, 6, none⟩) (Or.inl PQ.out.hF.1) _
            have hbb : Below B W ((((Wq.setCell ⟨L.g, 7, none⟩ (.bool true)).setCell ⟨L.g, 4, none⟩ (.bool false)).setCell ⟨L.g, 5, none⟩ (.int .i64 0)).setCell ⟨L.g, 6, none⟩ (.slice none 0 0)) := ((((HQ.out.mono hB).setCell (p := ⟨L.g, 7, none⟩) (PQ.out.hr _ PQ.out.hF.1).1 _).setCell (p := ⟨L.g, 4, none⟩) (PQ.out.hr _ PQ.out.hF.1).1 _).setCell (p := ⟨L.g, 5, none⟩) (PQ.out.hr _ PQ.out.hF.1).1 _).setCell (p := ⟨L.g, 6, none⟩) (PQ.out.hr _ PQ.out.hF.1).1 _
            have HKB := Aside0.mk hkb
            have HBB := Aside0.mk hbb
            clear hWq c3 c4 c5 c6 c7 f5 hlook hbl hfin hkb hbb
            go_wp2_with fail
            refine HFIN.out.mono ?_
            rintro e W3 ⟨rfl, F3, g1, g2, g3, g4⟩
            have HPO := Aside0.mk (show DevPost B L F (finishS isAny S.surv (blown S)) W W3 from ⟨F3, g1, fun k z => (g2 k z).imp id (fun (z : _ ≤ k) => by have := HKB.out.1; omega), HKB.out.then_ g3 (fun k z => Or.inl z), HBB.out.trans g4⟩)
            clear g1 g2 g3 g4 HFIN HKB HBB q4 q5 q6 q7 qf4 qf5 qf6 qf7
            go_wp2_with fail
            go_ret
            exact ⟨rfl, HPO.out⟩
    | none =>
      have hfd : fencedS S sys ep = false := by unfold fencedS; rw [hfe]
      rw [hfe] at hlook
      rw [hfd, if_neg (by simp)]
      simp only [Option.getD_none, Option.isSome_none] at hlook
      cases hfs : S.fset with
      | false =>
        rw [if_pos rfl]
        rw [hfs] at c4
        clear hP hP1 hf hb1 hfa hfe hfd fin hfs
        go_enter Try.func50, Try.ntmps50
        go_wp2_with fail
        go_quiet (fail)
        go_wp2_with fail
        go_ret
        exact ⟨rfl, (DevPost.same HI.out HB1.out).drewN _⟩
      | true =>
        rw [if_neg (by simp)]
        rw [hfs] at c4
        by_cases hlf : 0 < S.left
        · rw [if_pos hlf]
          have hd2 : decide (0 < S.left) = true := decide_eq_true hlf
          have HL0 := Aside0.mk hl0
          have HFS := Aside0.mk hfs
          have HFA := Aside0.mk hfa
          have hl1 : S.left ≤ 9223372036854775807 := hl0.2
          clear hP hP1 hf hb1 hfa hfe hfd fin hfs hl0
          go_enter Try.func50, Try.ntmps50
          go_wp2_with fail
          go_quiet (fail)
          obtain ⟨Wq, hWq⟩ : ∃ Wq, Wq = (W.alloc (.cells #[.int .i64 sys, .int .i64 ep] 35)).drewN nq := ⟨_, rfl⟩
          have HQ := Aside0.mk (show Below W.heap.size W Wq by rw [hWq]; exact below_drewN HB1.out nq)
          have PQ := Aside0.mk (HP1.out.below (W' := Wq) (by rw [hWq]; exact below_drewN (Below.refl _ _) nq))
          have qw : Wq.cell? ⟨W.heap.size, 1, none⟩ = some (.int .i64 ep) := by rw [hWq, blk_cell (show ((W.alloc (.cells #[.int .i64 sys, .int .i64 ep] 35)).drewN nq).heap[W.heap.size]? = some (.cells #[.int .i64 sys, .int .i64 ep] 35 (0, 0)) from blk_new W _)]; rfl
          have q4 : Wq.cell? ⟨L.g, 4, none⟩ = some (.bool true) := by rw [hWq]; exact (HB1.out.cell (p := ⟨L.g, 4, none⟩) lg).trans c4
          have q5 : Wq.cell? ⟨L.g, 5, none⟩ = some (.int .i64 S.left) := PQ.out.c5
          have qf : Wq.frozen? ⟨L.g, 5, none⟩ = false := PQ.out.fg 5
          rw [← hWq]
          clear hWq c3 c4 c5 c6 c7 f5 hlook
          go_wp2_with fail
          go_ret
          refine ⟨rfl, F, ⟨vs, pv, uv, m, PQ.out.setG uv _ rfl rfl rfl rfl (blk_put PQ.out.hg 5 _ (by unfold gcells; rw [HFS.out, HFA.out]; rfl)) (fun k hk _ => Below.heap_setCell _ _ _ _ hk) (by simp [World.setCell]) (Kd.V_step PQ.out.hu (fun k hk _ => Below.heap_setCell _ _ _ _ (fun e => hk.2 (Or.inl e))))⟩, fun k z => Or.inl z, (Kept.of_below HQ.out F).setCell (Or.inl PQ.out.hF.1) _, (HQ.out.mono hB).setCell (PQ.out.hr _ PQ.out.hF.1).1 _⟩
        · rw [if_neg hlf]
          have hd2 : decide (0 < S.left) = false := decide_eq_false hlf
          obtain ⟨A, c, hu1, hu2, hu3⟩ := hP.hu
          subst hu1
          clear hP hf hb1 hfa hfe hfd fin hfs hl0 hlf hP1 hu3
          go_enter Try.func50, Try.ntmps50
          go_wp2_with fail
          go_quiet (fail)
          obtain ⟨Wq, hWq⟩ : ∃ Wq, Wq = (W.alloc (.cells #[.int .i64 sys, .int .i64 ep] 35)).drewN nq := ⟨_, rfl⟩
          have HQ := Aside0.mk (show Below W.heap.size W Wq by rw [hWq]; exact below_drewN HB1.out nq)
          have PQ := Aside0.mk (HP1.out.below (W' := Wq) (by rw [hWq]; exact below_drewN (Below.refl _ _) nq))
          have qw : Wq.cell? ⟨W.heap.size, 1, none⟩ = some (.int .i64 ep) := by rw [hWq, blk_cell (show ((W.alloc (.cells #[.int .i64 sys, .int .i64 ep] 35)).drewN nq).heap[W.heap.size]? = some (.cells #[.int .i64 sys, .int .i64 ep] 35 (0, 0)) from blk_new W _)]; rfl
          have q4 : Wq.cell? ⟨L.g, 4, none⟩ = some (.bool true) := by rw [hWq]; exact (HB1.out.cell (p := ⟨L.g, 4, none⟩) lg).trans c4
          have q5 : Wq.cell? ⟨L.g, 5, none⟩ = some (.int .i64 S.left) := PQ.out.c5
          have q6 : Wq.cell? ⟨L.g, 6, none⟩ = some (.slice A S.surv.length c) := PQ.out.c6
          have q7 : Wq.cell? ⟨L.g, 7, none⟩ = some (.bool false) := by rw [hWq]; exact (HB1.out.cell (p := ⟨L.g, 7, none⟩) lg).trans c7
          have qf4 : Wq.frozen? ⟨L.g, 4, none⟩ = false := PQ.out.fg 4
          have qf5 : Wq.frozen? ⟨L.g, 5, none⟩ = false := PQ.out.fg 5
          have qf6 : Wq.frozen? ⟨L.g, 6, none⟩ = false := PQ.out.fg 6
          have qf7 : Wq.frozen? ⟨L.g, 7, none⟩ = false := PQ.out.fg 7
          rw [← hWq]
          have hbl := PQ.out.blow true
          have hfin := finish_calls hbl HF.out.blown hk 59 #[] isAny (matchAny _ _) A c S.surv
            (Kd.F_step (Kd.F_mono (Kd.V_F PQ.out.hu) (fun k hk => hk.2)) (fun k hk _ => (Below.heap_setCell _ _ _ _ (fun e => hk (Or.inl e))).trans ((Below.heap_setCell _ _ _ _ (fun e => hk (Or.inl e))).trans ((Below.heap_setCell _ _ _ _ (fun e => hk (Or.inl e))).trans (Below.heap_setCell _ _ _ _ (fun e => hk (Or.inl e))))))) hu2 hsl
          have HFIN := Aside0.mk hfin
          have hkb : Kept W ((((Wq.setCell ⟨L.g, 7, none⟩ (.bool true)).setCell ⟨L.g, 4, none⟩ (.bool false)).setCell ⟨L.g, 5, none⟩ (.int .i64 0)).setCell ⟨L.g, 6, none⟩ (.slice none 0 0)) F := ((((Kept.of_below HQ.out F).setCell (p := ⟨L.g, 7, none⟩) (Or.inl PQ.out.hF.1) _).setCell (p := ⟨L.g, 4, none⟩) (Or.inl PQ.out.hF.1) _).setCell (p := ⟨L.g, 5, none⟩) (Or.inl PQ.out.hF.1) _).setCell (p := ⟨L.g, 6, none⟩) (Or.inl PQ.out.hF.1) _
          have hbb : Below B W ((((Wq.setCell ⟨L.g, 7, none⟩ (.bool true)).setCell ⟨L.g, 4, none⟩ (.bool false)).setCell ⟨L.g, 5, none⟩ (.int .i64 0)).setCell ⟨L.g, 6, none⟩ (.slice none 0 0)) := ((((HQ.out.mono hB).setCell (p := ⟨L.g, 7, none⟩) (PQ.out.hr _ PQ.out.hF.1).1 _).setCell (p := ⟨L.g, 4, none⟩) (PQ.out.hr _ PQ.out.hF.1).1 _).setCell (p := ⟨L.g, 5, none⟩) (PQ.out.hr _ PQ.out.hF.1).1 _).setCell (p := ⟨L.g, 6, none⟩) (PQ.out.hr _ PQ.out.hF.1).1 _
          have HKB := Aside0.mk hkb
          have HBB := Aside0.mk hbb
          clear hWq c3 c4 c5 c6 c7 f5 hlook hbl hfin hkb hbb
          go_wp2_with fail
          refine HFIN.out.mono ?_
          rintro e W3 ⟨rfl, F3, g1, g2, g3, g4⟩
          have HPO := Aside0.mk (show DevPost B L F (finishS isAny S.surv (blown S)) W W3 from ⟨F3, g1, fun k z => (g2 k z).imp id (fun (z : _ ≤ k) => by have := HKB.out.1; omega), HKB.out.then_ g3 (fun k z => Or.inl z), HBB.out.trans g4⟩)
          clear g1 g2 g3 g4 HFIN HKB HBB q4 q5 q6 q7 qf4 qf5 qf6 qf7
          go_wp2_with fail
          go_ret
          exact ⟨rfl, HPO.out⟩
end Go.Proofs.Ytflajmgichdhhaa.PG

/- plain, Write. -/
import Derived.Test.YtflajmgichdhhaaAdm
import Derived.BigQuiet


namespace Go.Proofs.Ytflajmgichdhhaa.PG
open Go.RowKit Go.Proofs.YtflajmgichdhhaaW.PrintWords Go.Proofs.YtflajmgichdhhaaW.PrintLast Go.Proofs.YtflajmgichdhhaaW.PrintMore

set_option linter.unusedVariables false
set_option linter.unusedSimpArgs false
/-! ### plain, Write -/
def plainB (sys ep : Int) : Bool := decide (1 ≤ sys ∧ sys ≤ 4 ∧ 0 ≤ ep ∧ ep ≤ 1099511627776)
theorem plain_f (sys ep : Int) : device_plain.f sys ep = some (plainB sys ep) := by
  unfold device_plain.f plainB
  by_cases h1 : sys ≥ 1
  · rw [if_pos h1]
    by_cases h2 : sys ≤ 4
    · rw [if_pos h2]
      by_cases h3 : ep ≥ 0
      · rw [if_pos h3]
        congr 1
        by_cases h4 : ep ≤ 1099511627776
        · rw [decide_eq_true h4, decide_eq_true ⟨h1, h2, h3, h4⟩]
        · rw [decide_eq_false h4, decide_eq_false (fun z => h4 z.2.2.2)]
      · rw [if_neg h3, decide_eq_false (fun z => h3 z.2.2.1)]
    · rw [if_neg h2, decide_eq_false (fun z => h2 z.2.1)]
  · rw [if_neg h1, decide_eq_false (fun z => h1 z.1)]
theorem plain_calls (W : World) (sys ep : Int) : Calls Try.prog 48 #[.agg #[.int .i64 sys, .int .i64 ep]] W fun e W' => e = .returned (.bool (plainB sys ep)) ∧ Below W.heap.size W W' :=
  device_plain.calls sys ep _ W (plain_f sys ep)
def pushS (S : DevS) (w : S99) : DevS := { S with pend := S.pend ++ [w] }
def writeS (S : DevS) (sys ep sec : Int) (d : ByteArray) : Int × DevS :=
  if plainB sys ep = true ∧ d.size = 140 then (if 0 ≤ sec ∧ sec < (S.stable.length : Int) then (if (admitS S sys ep).1 = 0 then (0, pushS (admitS S sys ep).2 ⟨sys, sec, d⟩) else admitS S sys ep) else (2, S)) else (1, S)
theorem info84 : (Try.prog.info? 84).map (fun i => (i.zero, i.size, i.bytes)) = some (some (.agg #[.int .i64 0, .int .i64 0, .string ⟨#[]⟩]), k99.sz, 32) := by kernel_rfl
theorem DevAt.push {W w1 : World} {B : Nat} {L : Lay} {vs : List Value} {pv uv v1 : Value} {m : Ents} {F : Nat → Prop} {S : DevS} {w : S99} (h : DevAt W B L vs pv uv m F S) (hg : W.grownBy w1 pv.ownBlock)
    (hR : Kd.R k99 84 w1 B (fun k => F k ∨ W.heap.size ≤ k) v1 (S.pend ++ [w])) (hat : v1.ownBlock = pv.ownBlock ∨ ∃ b, v1.ownBlock = some b ∧ W.heap.size ≤ b) (hb : Below B W w1) :
    DevPost B L F (pushS S w) W (w1.setCell ⟨L.g, 2, none⟩ v1) := by
  have hk : Kept W w1 (fun k => some k = pv.ownBlock) := Kept.of_grown hg (Kept.refl _ _) (fun k hk => Or.inl hk.symm)
  have hs := hk.1
  refine ⟨fun k => F k ∨ (W.heap.size ≤ k ∧ k < w1.heap.size), ⟨vs, v1, uv, m, ?_⟩, fun k hk => hk.imp id (fun z => z.1), ?_, ?_⟩
  · refine h.setPend hk (Kd.R_mono (Kd.R_bound hR) (fun k hk => hk.1.imp id (fun z => ⟨z, hk.2.2.1⟩))) (fun k z => Or.inl z) (fun k z => z) (hat.imp id (fun ⟨b, h1, h2⟩ k hk => by rw [h1] at hk; cases hk; exact h2))
  · exact (hk.mono (fun k hk => h.hp.1 k hk.symm)).setCell (Or.inl h.hF.1) _
  · have hB : B ≤ W.heap.size := by have := h.hr _ h.hF.1; omega
    exact hb.setCell (h.hr _ h.hF.1).1 _
theorem admit_zero {S : DevS} {sys ep : Int} (h : (admitS S sys ep).1 = 0) : (admitS S sys ep).2.pend = S.pend ∧ (admitS S sys ep).2.stable = S.stable := by
  unfold admitS at h ⊢
  split
  · exact ⟨rfl, rfl⟩
  · split
    · exact ⟨rfl, rfl⟩
    · split
      · exact ⟨rfl, rfl⟩
      · split
        · exact ⟨rfl, rfl⟩
        · rename_i h1 h2 h3 h4
          rw [if_neg h1, if_neg h2, if_neg h3, if_neg h4] at h
          cases h
set_option maxHeartbeats 4000000 in
set_option maxRecDepth 100000 in
theorem write_calls {W : World} {B : Nat} {L : Lay} {F : Nat → Prop} {S : DevS} {k : Nat} (hI : DevIs W B L F S) (hf : Fine k S) (hk : k ≤ 1000000) (hsl : S.surv.length ≤ 4611686018427387904) (sys ep sec : Int) (d : ByteArray) :
    Calls Try.prog 20 #[.pointer (some ⟨L.g, 0, none⟩), .agg #[.int .i64 sys, .int .i64 ep], .int .i64 sec, .string d] W fun e W' => e = .returned (.int .i64 (writeS S sys ep sec d).1) ∧ DevPost B L F (writeS S sys ep sec d).2 W W' := by
  have hB := hI.hB
  have hb1 := below_alloc (Below.refl W.heap.size W) (.cells #[.int .i64 sys, .int .i64 ep] 35)
  have hx1 := blk_new W (.cells #[.int .i64 sys, .int .i64 ep] 35)
  have HI := Aside0.mk hI
  have HB1 := Aside0.mk hb1
  have HX1 := Aside0.mk hx1
  have HF := Aside0.mk hf
  have hplen := hf.plen
  unfold writeS
  clear hI hb1 hx1 hf
  cases hpl : plainB sys ep with
  | false =>
    rw [if_neg (by simp)]
    have HC := plain_calls (W.alloc (.cells #[.int .i64 sys, .int .i64 ep] 35)) sys ep
    rw [hpl] at HC
    have HC := Aside0.mk HC
    clear hpl
    go_enter Try.func20, Try.ntmps20
    go_wp2_with fail
    refine HC.out.mono ?_
    rintro e W2 ⟨rfl, hb2⟩
    have HB2 := Aside0.mk (HB1.out.trans (hb2.mono HB1.out.size))
    clear hb2 HC
    go_wp2_with fail
    go_ret
    exact ⟨rfl, DevPost.same HI.out HB2.out⟩
  | true =>
    have HC := plain_calls (W.alloc (.cells #[.int .i64 sys, .int .i64 ep] 35)) sys ep
    rw [hpl] at HC
    have HC := Aside0.mk HC
    clear hpl
    by_cases hd : d.size = 140
    · rw [if_pos ⟨rfl, hd⟩]
      have hd1 : ((d.size : Int) == 140) = true := by rw [hd]; rfl
      have hd2 : ((d.size : Int) != 140) = false := by rw [hd]; rfl
      clear hd
      by_cases hin : 0 ≤ sec ∧ sec < (S.stable.length : Int)
      · rw [if_pos hin]
        obtain ⟨e5, S5, hr⟩ : ∃ e5 S5, admitS S sys ep = (e5, S5) := ⟨_, _, rfl⟩
        have hadm : ∀ W2, DevIs W2 B L F S → Calls Try.prog 50 #[.pointer (some ⟨L.g, 0, none⟩), .agg #[.int .i64 sys, .int .i64 ep]] W2 fun e W' => e = .returned (.int .i64 e5) ∧ DevPost B L F S5 W2 W' := fun W2 h => by
          have := admit_calls h HF.out hk hsl sys ep
          rw [hr] at this
          exact this
        have hz := @admit_zero S sys ep
        rw [hr] at hz ⊢
        have HZ := Aside0.mk hz
        have HADM := Aside0.mk hadm
        clear hr hz hadm
        by_cases he : e5 = 0
        · subst he
          rw [if_pos rfl]
          go_enter Try.func20, Try.ntmps20
          go_wp2_with fail
          refine HC.out.mono ?_
          rintro e W2 ⟨rfl, hb2⟩
          have HB2 := Aside0.mk (HB1.out.trans (hb2.mono HB1.out.size))
          have HX2 := Aside0.mk (blk_below HX1.out hb2)
          have HI2 := Aside0.mk (HI.out.below HB2.out)
          have lW : W.heap.size < W2.heap.size := blk_lt HX2.out
          have x0 : W2.cell? ⟨W.heap.size, 0, none⟩ = some (.int .i64 sys) := by rw [blk_cell HX2.out]; rfl
          have x1 : W2.cell? ⟨W.heap.size, 1, none⟩ = some (.int .i64 ep) := by rw [blk_cell HX2.out]; rfl
          have HT : Aside0 (Calls Try.prog 49 #[.pointer (some ⟨L.g, 0, none⟩), .int .i64 sec] W2 fun e W' => e = .returned (.bool true) ∧ W2 = W') := by
            obtain ⟨vs, pv, uv, m, hP⟩ := HI2.out
            exact ⟨there_yes hP sec hin.1 hin.2⟩
          have HIN := Aside0.mk hin
          clear hb2 HC hin
          go_wp2_with fail
          refine HT.out.mono ?_
          rintro e W3 ⟨rfl, rfl⟩
          clear HT
          go_wp2_with fail
          refine (HADM.out W2 HI2.out).mono ?_
          rintro e W5 ⟨rfl, F5, hI5, hF5, hk5, hb5⟩
          have HX5 := Aside0.mk (blk_kept HX2.out hk5 (fun z => by have := (HI.out.range _ z).2; omega))
          clear HADM
          obtain ⟨hz1, hz2⟩ := HZ.out (by simp)
          obtain ⟨vs, pv, uv, m, hP5⟩ := hI5
          have c2 := hP5.c2
          have y0 : W5.cell? ⟨W.heap.size, 0, none⟩ = some (.int .i64 sys) := by rw [blk_cell HX5.out]; rfl
          have f2 := hP5.fg 2
          have lg := hP5.lg
          obtain ⟨A, c, hpv, _, _⟩ := hP5.pslice
          have hplen5 : S5.pend.length ≤ k := by rw [hz1]; exact hplen
          have HP5 := Aside0.mk hP5
          have HKB := Aside0.mk (⟨(Kept.of_below HB2.out F).then_ hk5 (fun _ z => Or.inl z), (HB2.out.mono hB).trans hb5⟩ : Kept W W5 F ∧ Below B W W5)
          have hF5 : ∀ q, F5 q → F q ∨ W.heap.size ≤ q := fun q z => (hF5 q z).imp id (fun y => by have := HB2.out.size; omega)
          have hB5 : B ≤ W5.heap.size := by have := hP5.hr _ hP5.hF.1; omega
          have HF5 := Aside0.mk hF5
          subst hpv
          clear hz1 hz2 hP5 hF5 hk5 hb5 HZ
          go_wp2_with fail
          refine start_ (n := 15) (S := fun w' => w'.cell? ⟨L.g, 2, none⟩ = some (.slice A S5.pend.length c) ∧ w'.cell? ⟨W.heap.size, 0, none⟩ = some (.int .i64 sys)) (ds := [11, 14]) #[false, false, false, false, false, false, false, false, false, false, false, false, false, false, false] (by kernel_rfl) rfl rfl ⟨c2, y0⟩ (fun hHeld => ?_)
          refine pure_ (i := 0) (N := some 28) (v := ?_) (a' := ?_) #[true, false, false, false, false, false, false, false, false, false, false, false, false, false, false] rfl rfl (by kernel_rfl) (fun _ _ _ h => h) (Or.inl ⟨by rfl, ?_⟩) ?_ ?_
          rotate_left
          · intro w'
            go_simp
            with_reducible rfl
          rotate_left
          · simp only [Act.put, List.setIfInBounds_toArray, List.set_cons_zero, List.set_cons_succ, i64_w, i32_w]
            rfl
          refine pure_ (i := 1) (N := some 29) (v := ?_) (a' := ?_) #[true, true, false, false, false, false, false, false, false, false, false, false, false, false, false] rfl rfl (by kernel_rfl) (fun _ _ _ h => h) (Or.inl ⟨by rfl, ?_⟩) ?_ ?_
          rotate_left
          · intro w'
            go_simp
            with_reducible rfl
          rotate_left
          · simp only [Act.put, List.setIfInBounds_toArray, List.set_cons_zero, List.set_cons_succ, i64_w, i32_w]
            rfl
          refine pure_ (i := 2) (N := some 30) (v := ?_) (a' := ?_) #[true, true, true, false, false, false, false, false, false, false, false, false, false, false, false] rfl rfl (by kernel_rfl) (fun _ _ _ h => h) (Or.inl ⟨by rfl, ?_⟩) ?_ ?_
          rotate_left
          · intro w'
            go_simp
            with_reducible rfl
          rotate_left
          · simp only [Act.put, List.setIfInBounds_toArray, List.set_cons_zero, List.set_cons_succ, i64_w, i32_w]
            rfl
          refine pure_ (i := 3) (N := some 31) (v := ?_) (a' := ?_) #[true, true, true, true, false, false, false, false, false, false, false, false, false, false, false] rfl rfl (by kernel_rfl) (fun _ _ _ h => h) (Or.inl ⟨by rfl, ?_⟩) ?_ ?_
          rotate_left
          · intro w'
            go_simp
            with_reducible rfl
          rotate_left
          · simp only [Act.put, List.setIfInBounds_toArray, List.set_cons_zero, List.set_cons_succ, i64_w, i32_w]
            rfl
          refine pure_ (i := 5) (N := some 33) (v := ?_) (a' := ?_) #[true, true, true, true, false, true, false, false, false, false, false, false, false, false, false] rfl rfl (by kernel_rfl) (fun _ _ _ h => h) (Or.inl ⟨by rfl, ?_⟩) ?_ ?_
          rotate_left
          · intro w'
            go_simp
            with_reducible rfl
          rotate_left
          · simp only [Act.put, List.setIfInBounds_toArray, List.set_cons_zero, List.set_cons_succ, i64_w, i32_w]
            rfl
          refine pure_ (i := 7) (N := some 35) (v := ?_) (a' := ?_) #[true, true, true, true, false, true, false, true, false, false, false, false, false, false, false] rfl rfl (by kernel_rfl) (fun _ _ _ h => h) (Or.inl ⟨by rfl, ?_⟩) ?_ ?_
          rotate_left
          · intro w'
            go_simp
            with_reducible rfl
          rotate_left
          · simp only [Act.put, List.setIfInBounds_toArray, List.set_cons_zero, List.set_cons_succ, i64_w, i32_w]
            rfl
          refine pure_ (i := 8) (N := some 36) (v := ?_) (a' := ?_) #[true, true, true, true, false, true, false, true, true, false, false, false, false, false, false] rfl rfl (by kernel_rfl) (fun _ _ _ h => h) (Or.inl ⟨by rfl, ?_⟩) ?_ ?_
          rotate_left
          · intro w'
            go_simp
            with_reducible rfl
          rotate_left
          · simp only [Act.put, List.setIfInBounds_toArray, List.set_cons_zero, List.set_cons_succ, i64_w, i32_w]
            rfl
          refine take_ (i := 4) (N := some 32) (v := ?_) (a' := ?_) #[true, true, true, true, true, true, false, true, true, false, false, false, false, false, false] rfl rfl (by kernel_rfl) (fun _ _ _ h => h) (Or.inl ⟨by rfl, ?_⟩) hHeld ?_ ?_
          rotate_left
          · rintro w' ⟨s0, s1⟩
            go_simp
            with_reducible rfl
          rotate_left
          · simp only [Act.put, List.setIfInBounds_toArray, List.set_cons_zero, List.set_cons_succ, i64_w, i32_w]
            rfl
          refine take_ (i := 6) (N := some 34) (v := ?_) (a' := ?_) #[true, true, true, true, true, true, true, true, true, false, false, false, false, false, false] rfl rfl (by kernel_rfl) (fun _ _ _ h => h) (Or.inl ⟨by rfl, ?_⟩) hHeld ?_ ?_
          rotate_left
          · rintro w' ⟨s0, s1⟩
            go_simp
            with_reducible rfl
          rotate_left
          · simp only [Act.put, List.setIfInBounds_toArray, List.set_cons_zero, List.set_cons_succ, i64_w, i32_w]
            rfl
          refine pure_ (i := 9) (N := some 37) (v := ?_) (a' := ?_) #[true, true, true, true, true, true, true, true, true, true, false, false, false, false, false] rfl rfl (by kernel_rfl) (fun _ _ _ h => h) (Or.inl ⟨by rfl, ?_⟩) ?_ ?_
          rotate_left
          · intro w'
            go_simp
            with_reducible rfl
          rotate_left
          · simp only [Act.put, List.setIfInBounds_toArray, List.set_cons_zero, List.set_cons_succ, i64_w, i32_w]
            rfl
          refine one_ (i := 10) (N := some 38) #[true, true, true, true, true, true, true, true, true, true, true, false, false, false, false] rfl rfl (by kernel_rfl) (by decide) (fun K hK => ?_)
          refine value_ (w1 := ?_) (v := ?_) (by rfl) rfl ?_ ?_
          rotate_left 2
          · go_simp
            constructor
            · rfl
            · rfl
          refine hK.out _ _ ⟨((blk_cell (blk_alloc HP5.out.hg _) 2).trans rfl), ((blk_cell (blk_alloc HX5.out _) 0).trans rfl)⟩ (fun hHeld => ?_)
          clear hK K
          refine norm_ (a' := ?_) ?_ ?_
          rotate_left
          · show Act.put _ (some 38) _ = _
            simp only [Act.put, List.setIfInBounds_toArray, List.set_cons_zero, List.set_cons_succ, i64_w, i32_w]
            rfl
          refine last_ (i := 11) (N := some 39) #[true, true, true, true, true, true, true, true, true, true, true, true, false, false, false] rfl rfl (by kernel_rfl) (by decide) (fun K hK => ?_)
          rw [show (W5.alloc (.cells #[.int .i64 sys, .int .i64 sec, .string d] 84)).drew = W5.drew.alloc (.cells #[.int .i64 sys, .int .i64 sec, .string d] 84) from rfl]
          refine Kd.R_append_step k99 (w0 := W5.drew) (W := W5.drew) B (by rfl) (.tmp 32) (.tmp 38) 76 84 (.agg #[.int .i64 0, .int .i64 0, .string ⟨#[]⟩]) 32 rfl Try.underlying76 info84 rfl (by decide) (by omega) (.slice A S5.pend.length c) S5.pend ⟨sys, sec, d⟩ [.int .i64 sys, .int .i64 sec, .string d] (fun k => F5 k ∨ W5.heap.size ≤ k) (fun _ => False) rfl rfl (k99_mkM _ _ _ ⟨sys, sec, d⟩) (fun _ h => h.elim) (fun k hk => Or.inr hk) (Kd.R_mono HP5.out.hp (fun k hk => Or.inl hk)) (Below.refl _ _) hB5 (by omega) ?_
          intro v1 w1 hR1 hb1 hg1 hat1
          obtain ⟨A1, c1, hv1, _, _⟩ := Kd.R_reads hR1
          subst hv1
          have hg1 : W5.grownBy w1 (Value.slice A S5.pend.length c).ownBlock := ⟨hg1.os, hg1.tape, hg1.output, hg1.size, hg1.block⟩
          have hb1 : Below B W5 w1 := ⟨hb1.os, hb1.tape, hb1.output, hb1.size, hb1.block⟩
          have hgw := blk_grown HP5.out.hg hg1 (fun e => Kd.R_ne HP5.out.hp HP5.out.hg (by decide) e)
          have g2 : w1.cell? ⟨L.g, 2, none⟩ = some (.slice A S5.pend.length c) := by rw [blk_cell hgw]; rfl
          have gf : w1.frozen? ⟨L.g, 2, none⟩ = false := blk_frozen hgw 2
          have HR1 := Aside0.mk hR1
          have HB1a := Aside0.mk hb1
          have HG1 := Aside0.mk hg1
          have HAT1 := Aside0.mk hat1
          clear hR1 hb1 hg1 hat1 hgw
          refine hK.out _ _ ?_
          clear hK K
          refine norm_ (a' := ?_) ?_ ?_
          rotate_left
          · show Act.put _ (some 39) _ = _
            simp only [Act.put, List.setIfInBounds_toArray, List.set_cons_zero, List.set_cons_succ, i64_w, i32_w]
            rfl
          refine pure_ (i := 12) (N := some 40) (v := ?_) (a' := ?_) #[true, true, true, true, true, true, true, true, true, true, true, true, true, false, false] rfl rfl (by kernel_rfl) (fun _ _ _ h => h) (Or.inl ⟨by rfl, ?_⟩) ?_ ?_
          rotate_left
          · intro w'
            go_simp
            with_reducible rfl
          rotate_left
          · simp only [Act.put, List.setIfInBounds_toArray, List.set_cons_zero, List.set_cons_succ, i64_w, i32_w]
            rfl
          refine pure_ (i := 13) (N := some 41) (v := ?_) (a' := ?_) #[true, true, true, true, true, true, true, true, true, true, true, true, true, true, false] rfl rfl (by kernel_rfl) (fun _ _ _ h => h) (Or.inl ⟨by rfl, ?_⟩) ?_ ?_
          rotate_left
          · intro w'
            go_simp
            with_reducible rfl
          rotate_left
          · simp only [Act.put, List.setIfInBounds_toArray, List.set_cons_zero, List.set_cons_succ, i64_w, i32_w]
            rfl
          refine last_ (i := 14) (N := none) #[true, true, true, true, true, true, true, true, true, true, true, true, true, true, true] rfl rfl (by kernel_rfl) (by decide) (fun K hK => ?_)
          refine skip_ (w1 := ?_) (by rfl) rfl ?_ ?_
          rotate_left
          · go_simp
            rfl
          refine hK.out _ _ ?_
          clear hK K
          refine done_ (by kernel_rfl) ?_
          go_wp2_with fail
          go_ret
          refine ⟨rfl, ?_⟩
          have hpush := HP5.out.push (w := ⟨sys, sec, d⟩) HG1.out HR1.out HAT1.out HB1a.out
          rw [show (S5.pend ++ [(⟨sys, sec, d⟩ : S99)]).length = S5.pend.length + 1 from by rw [List.length_append]; rfl] at hpush
          obtain ⟨F6, i1, i2, i3, i4⟩ := hpush
          obtain ⟨a1, a2⟩ := HKB.out
          have hz5 := a1.1
          exact ⟨F6, i1, fun q z => (i2 q z).elim (fun y => HF5.out q y) (fun y => Or.inr (by omega)), a1.then_ i3 (fun q z => HF5.out q z), a2.trans i4⟩
        · rw [if_neg he]
          have he1 : (e5 == 0) = false := beq_eq_false_iff_ne.2 he
          have he2 : (e5 != 0) = true := bne_iff_ne.2 he
          have HE := Aside0.mk he
          clear he
          go_enter Try.func20, Try.ntmps20
          go_wp2_with fail
          refine HC.out.mono ?_
          rintro e W2 ⟨rfl, hb2⟩
          have HB2 := Aside0.mk (HB1.out.trans (hb2.mono HB1.out.size))
          have HX2 := Aside0.mk (blk_below HX1.out hb2)
          have HI2 := Aside0.mk (HI.out.below HB2.out)
          have lW : W.heap.size < W2.heap.size := blk_lt HX2.out
          have x0 : W2.cell? ⟨W.heap.size, 0, none⟩ = some (.int .i64 sys) := by rw [blk_cell HX2.out]; rfl
          have x1 : W2.cell? ⟨W.heap.size, 1, none⟩ = some (.int .i64 ep) := by rw [blk_cell HX2.out]; rfl
          have HT : Aside0 (Calls Try.prog 49 #[.pointer (some ⟨L.g, 0, none⟩), .int .i64 sec] W2 fun e W' => e = .returned (.bool true) ∧ W2 = W') := by
            obtain ⟨vs, pv, uv, m, hP⟩ := HI2.out
            exact ⟨there_yes hP sec hin.1 hin.2⟩
          have HIN := Aside0.mk hin
          clear hb2 HC hin
          go_wp2_with fail
          refine HT.out.mono ?_
          rintro e W3 ⟨rfl, rfl⟩
          clear HT
          go_wp2_with fail
          refine (HADM.out W2 HI2.out).mono ?_
          rintro e W5 ⟨rfl, F5, hI5, hF5, hk5, hb5⟩
          have HX5 := Aside0.mk (blk_kept HX2.out hk5 (fun z => by have := (HI.out.range _ z).2; omega))
          clear HADM
          have HPO := Aside0.mk (show DevPost B L F S5 W W5 from ⟨F5, hI5, fun q z => (hF5 q z).imp id (fun y => by have := HB2.out.size; omega), (Kept.of_below HB2.out F).then_ hk5 (fun _ z => Or.inl z), (HB2.out.mono hB).trans hb5⟩)
          clear hI5 hF5 hk5 hb5 HZ
          go_wp2_with fail
          go_ret
          exact ⟨rfl, HPO.out⟩
      · rw [if_neg hin]
        go_enter Try.func20, Try.ntmps20
        go_wp2_with fail
        refine HC.out.mono ?_
        rintro e W2 ⟨rfl, hb2⟩
        have HB2 := Aside0.mk (HB1.out.trans (hb2.mono HB1.out.size))
        have HT : Aside0 (Calls Try.prog 49 #[.pointer (some ⟨L.g, 0, none⟩), .int .i64 sec] W2 fun e W' => e = .returned (.bool false) ∧ W2 = W') := by
          obtain ⟨vs, pv, uv, m, hP⟩ := HI.out.below HB2.out
          exact ⟨there_no hP sec hin⟩
        clear hb2 HC hin
        go_wp2_with fail
        refine HT.out.mono ?_
        rintro e W3 ⟨rfl, rfl⟩
        clear HT
        go_wp2_with fail
        go_ret
        exact ⟨rfl, DevPost.same HI.out HB2.out⟩
    · rw [if_neg (fun z => hd z.2)]
      have hd1 : ((d.size : Int) == 140) = false := beq_eq_false_iff_ne.2 (by omega)
      have hd2 : ((d.size : Int) != 140) = true := bne_iff_ne.2 (by omega)
      clear hd
      go_enter Try.func20, Try.ntmps20
      go_wp2_with fail
      refine HC.out.mono ?_
      rintro e W2 ⟨rfl, hb2⟩
      have HB2 := Aside0.mk (HB1.out.trans (hb2.mono HB1.out.size))
      clear hb2 HC
      go_wp2_with fail
      go_ret
      exact ⟨rfl, DevPost.same HI.out HB2.out⟩
end Go.Proofs.Ytflajmgichdhhaa.PG

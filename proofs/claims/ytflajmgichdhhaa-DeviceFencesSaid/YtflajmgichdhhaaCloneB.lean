/- Clone of a device: the walk. -/
import Derived.Test.YtflajmgichdhhaaCloneA
import Derived.BigQuiet
import Derived.Test.YtflajmgichdhhaaFewDo
import Derived.Maps.RangeWalk
namespace Go.Proofs.Ytflajmgichdhhaa.PG
open Go.RowKit Go.Proofs.YtflajmgichdhhaaW.PrintWords Go.Proofs.YtflajmgichdhhaaW.PrintLast Go.Proofs.YtflajmgichdhhaaW.PrintMore

set_option linter.unusedVariables false
set_option linter.unusedSimpArgs false
/-! ### Clone -/
def ClonePost (S : DevS) (W : World) (e : Ending) (W' : World) : Prop := ∃ L' : Lay, e = .returned (.pointer (some ⟨L'.g, 0, none⟩)) ∧ DevIs W' W.heap.size L' (fun k => W.heap.size ≤ k ∧ k < W'.heap.size) S ∧ Below W.heap.size W W'
theorem copy_strs (w : World) (a b n : Nat) (l0 l : List ByteArray) (ha : w.heap[a]? = some (.cells (strs l0) 9 (0, 0))) (hb : w.heap[b]? = some (.cells (strs l) 9 (0, 0))) (h0 : l0.length = n) (h1 : l.length = n) :
    ∃ w', (∀ ty, (Builtin.copy_ #[26, 26] ty #[.slice (some ⟨a, 0, none⟩) n n, .slice (some ⟨b, 0, none⟩) n n]).run Try.prog w = .ok (.int .i64 (n : Int)) w') ∧ w'.heap[a]? = some (.cells (strs l) 9 (0, 0)) ∧ w.grownBy w' (some a) := by
  have hs0 : (strs l0).size = n := by unfold strs; simp [h0]
  have hvl : (l.map Value.string).length = n := by simp [h1]
  have hr := fun ty => run_copy_cells (P := Try.prog) w 26 26 ty 9 a 0 n n ⟨b, 0, none⟩ n n (l.map Value.string) Try.underlying26 (by kernel_rfl) (by rw [hvl]; exact (Nat.min_self n).symm)
    (fun j v hj => by
      have : w.cell? ⟨b, j, none⟩ = some v := by
        rw [blk_cell hb, strs_get, ← List.getElem?_map]; exact hj
      have e : Addr.add ⟨b, 0, none⟩ j = ⟨b, j, none⟩ := by simp [Addr.add]; intro hz; exact hz.symm
      rw [e]; exact this)
    (fun j hj => by rw [blk_cell ha]; simp; omega) (fun j _ => blk_frozen ha _) (fun v hv => by obtain ⟨x, _, rfl⟩ := List.mem_map.1 hv; rfl)
  obtain ⟨cur', q1, q2, q3⟩ := setCells_row (l.map Value.string) 0 w (strs l0) ha (by omega)
  obtain ⟨s1, s2, s3, s4⟩ := setCells_same a (l.map Value.string) 0 w
  refine ⟨w.setCells a 0 (l.map Value.string), fun ty => ?_, ?_, ⟨s1, s2, s3, by rw [s4]; exact Nat.le_refl _, fun k _ hk => setCells_far _ _ k (fun he => hk (by rw [he]))⟩⟩
  · have := hr ty
    rw [hvl] at this
    exact this
  · rw [q1]
    have : cur' = strs l := by
      apply Array.toList_inj.1
      rw [q3, List.take_zero, List.nil_append, Nat.zero_add, hvl, List.drop_of_length_le (by rw [Array.length_toList, hs0]; exact Nat.le_refl _), List.append_nil]
      rfl
    rw [this]
theorem cloneAt {W w : World} {L' : Lay} {vs : List Value} {pv uv : Value} {m2 : Ents} {S : DevS} (b0 : Nat) (hb0 : W.heap.size ≤ b0) (hsb0 : L'.sb < b0)
    (hg : w.heap[L'.g]? = some (.cells (gcells L' pv uv S) 81 (0, 0))) (hs : w.heap[L'.sb]? = some (.cells (strs S.stable) 9 (0, 0))) (ho : w.heap[L'.ob]? = some (.cells vs.toArray 26 (0, 0))) (hvl : vs.length = S.old.length)
    (hv : ∀ (i : Nat) (v : Value) (x : List ByteArray), vs[i]? = some v → S.old[i]? = some x → Kd.R Kd.string 9 w b0 (fun k => b0 ≤ k) v x)
    (hp : Kd.R k99 84 w W.heap.size (fun k => W.heap.size ≤ k) pv S.pend) (hm : MapIs w L'.bm m2) (hl : ∀ a, look a m2 = S.fences a) (hu : Kd.R (Kd.int .i64) 3 w b0 (fun k => b0 ≤ k) uv S.surv)
    (h1 : W.heap.size ≤ L'.g) (h2 : W.heap.size ≤ L'.sb) (h3 : W.heap.size ≤ L'.ob) (h4 : W.heap.size ≤ L'.bm) :
    DevIs w W.heap.size L' (fun k => W.heap.size ≤ k ∧ k < w.heap.size) S := by
  obtain ⟨inner, hown⟩ := Kd.R_own hp
  have hpt : ∀ k, some k = pv.ownBlock → ∃ cells, w.heap[k]? = some (.cells cells 84 (0, 0)) := fun k hk => own_typed hown k hk.symm
  have hfr : ∀ (k q : Nat), b0 ≤ k → k < w.heap.size → (∃ cells, w.heap[k]? = some (.cells cells q (0, 0))) → q ≠ 81 → q ≠ 26 → q ≠ 84 → Fr L' pv (fun k => W.heap.size ≤ k ∧ k < w.heap.size) k := by
    rintro k q hk hlt ⟨cells, hc⟩ q1 q2 q3
    refine ⟨⟨by omega, hlt⟩, ?_⟩
    rintro (e | e | e | e | e)
    · exact blk_ne hc hg q1 e
    · omega
    · exact blk_ne hc ho q2 e
    · exact hm.ne hc e
    · obtain ⟨cells', hc'⟩ := hpt k e
      exact blk_ne hc hc' q3 rfl
  refine ⟨vs, pv, uv, m2, { hg := hg, hs := hs, ho := ho, hvl := hvl, hv := fun i v x a b => ?_, hp := ?_, hm := hm, hl := hl, hu := ?_, hF := ⟨⟨h1, blk_lt hg⟩, ⟨h2, blk_lt hs⟩, ⟨h3, blk_lt ho⟩, ⟨h4, hm.lt⟩⟩, hr := fun k hk => hk }⟩
  · refine Kd.V_mono (Kd.R_V (base' := 0) (Kd.R_bound (hv i v x a b))) (fun k hk => ?_)
    obtain ⟨k1, k2, k3, q, hq, hc⟩ := hk
    have : q = 9 := by simpa [Kd.string, Kd.scalar] using hq
    subst this
    exact hfr k 9 k1 k3 hc (by decide) (by decide) (by decide)
  · exact Kd.R_mono (Kd.R_bound hp) (fun k hk => ⟨hk.1, hk.2.2.1⟩)
  · refine Kd.V_mono (Kd.R_V (base' := 0) (Kd.R_bound hu)) (fun k hk => ?_)
    obtain ⟨k1, k2, k3, q, hq, hc⟩ := hk
    have : q = 3 := by simpa [Kd.int, Kd.scalar] using hq
    subst this
    exact hfr k 3 k1 k3 hc (by decide) (by decide) (by decide)
set_option maxRecDepth 100000 in
set_option maxHeartbeats 8000000 in
theorem clone_calls {W : World} {B : Nat} {L : Lay} {F : Nat → Prop} {S : DevS} {k : Nat} (hD : DevIs W B L F S) (hF : Fine k S) (hk : k ≤ 1000000) (hsl : S.surv.length ≤ 1000000) :
    Calls Try.prog 16 #[.pointer (some ⟨L.g, 0, none⟩)] W fun e W' => ClonePost S W e W' := by
  obtain ⟨vs, pv, uv, m, hP⟩ := hD
  have hpl : S.pend.length ≤ 1000000 := Nat.le_trans hF.plen hk
  have HPL := Aside0.mk hpl
  have HSL := Aside0.mk hsl
  have HFI := Aside0.mk hF
  have hn1 := hF.n1
  have hol := hF.len
  obtain ⟨Ap, cp, hpv, hpc, hpC⟩ := hP.pslice
  obtain ⟨Au, cu, huv, huc, huF⟩ := hP.hu
  subst hpv huv
  have HSRC := Aside0.mk (fun (w : World) (hb : Below W.heap.size W w) => hP.below hb)
  have hcl : ∀ w, Below W.heap.size W w → Calls Try.prog 44 #[.slice Ap S.pend.length cp] w fun e w' => ∃ A c, e = .returned (.slice A S.pend.length c) ∧ Kd.R k99 84 w' W.heap.size (fun k => W.heap.size ≤ k) (.slice A S.pend.length c) S.pend ∧ Below w.heap.size w w' := fun w hb => by
    refine (clone44 w Ap cp S.pend (Kd.C_below hpC hb) hpl).mono ?_
    rintro e w' ⟨v, rfl, hR, hb2⟩
    obtain ⟨A, c, rfl⟩ := Kd.R_slice hR
    exact ⟨A, c, rfl, Kd.R_mono (Kd.R_lower hR hb.size) (fun k hk => Nat.le_trans hb.size hk), hb2⟩
  have HUC := Aside0.mk (Kd.F_now huF)
  have HLG := Aside0.mk hP.lg
  have c0 := hP.c0
  have c1 := hP.c1
  have c2 := hP.c2
  have c4 := hP.c4
  have c5 := hP.c5
  have c6 := hP.c6
  have c7 := hP.c7
  have HSTL := Aside0.mk (show S.stable.length = S.stable.length from rfl)
  clear hP hF hpl hsl hpc hpC huc huF hk
  obtain ⟨n, hn⟩ : ∃ n, n = S.stable.length := ⟨_, rfl⟩
  obtain ⟨np, hnp⟩ : ∃ np, np = S.pend.length := ⟨_, rfl⟩
  obtain ⟨nu, hnu⟩ : ∃ nu, nu = S.surv.length := ⟨_, rfl⟩
  obtain ⟨fs, hfs⟩ : ∃ fs, fs = S.fset := ⟨_, rfl⟩
  obtain ⟨fl, hfl⟩ : ∃ fl, fl = S.left := ⟨_, rfl⟩
  obtain ⟨fd, hfd⟩ : ∃ fd, fd = S.failed := ⟨_, rfl⟩
  obtain ⟨xs, hxs⟩ : ∃ xs, xs = S.pend := ⟨_, rfl⟩
  rw [← hn] at c0 c1 hn1
  rw [← hnp] at c2 hcl
  rw [← hxs] at hcl
  rw [← hnu] at c6
  rw [← hfs] at c4
  rw [← hfl] at c5
  rw [← hfd] at c7
  have HCL := Aside0.mk hcl
  have EQS := Aside0.mk (show n = S.stable.length ∧ np = S.pend.length ∧ nu = S.surv.length ∧ fs = S.fset ∧ fl = S.left ∧ fd = S.failed ∧ xs = S.pend ∧ S.old.length = n from ⟨hn, hnp, hnu, hfs, hfl, hfd, hxs, by omega⟩)
  clear hcl hn hnp hnu hfs hfl hfd hxs hol
  have hm1 := print_make_int (P := Try.prog) 26 9 (.string ⟨#[]⟩) 16 Try.underlying26 info9 rfl (by decide) (n : Int) (by omega) (by rw [Int.toNat_natCast]; omega)
  have hm2 := print_make_int (P := Try.prog) 27 26 (.slice none 0 0) 24 Try.underlying27 info26 rfl (by decide) (n : Int) (by omega) (by rw [Int.toNat_natCast]; omega)
  rw [Int.toNat_natCast] at hm1 hm2
  have hk := makeMap77
  rw [made_strs] at hm1
  rw [made_nils] at hm2
  go_enter Try.func16, Try.ntmps16
  go_wp2_with fail
  have HBe := Aside0.mk (show Below W.heap.size W W.drew from (Below.refl _ _).drew)
  refine start_ (n := 29) (S := fun w' => w'.cell? ⟨L.g, 0, none⟩ = some (.slice (some ⟨L.sb, 0, none⟩) n n) ∧ w'.cell? ⟨L.g, 1, none⟩ = some (.slice (some ⟨L.ob, 0, none⟩) n n) ∧ w'.cell? ⟨L.g, 2, none⟩ = some (.slice Ap np cp) ∧ w'.cell? ⟨L.g, 4, none⟩ = some (.bool fs) ∧ w'.cell? ⟨L.g, 5, none⟩ = some (.int .i64 fl) ∧ w'.cell? ⟨L.g, 6, none⟩ = some (.slice Au nu cu) ∧ w'.cell? ⟨L.g, 7, none⟩ = some (.bool fd)) (ds := []) #[false, false, false, false, false, false, false, false, false, false, false, false, false, false, false, false, false, false, false, false, false, false, false, false, false, false, false, false, false] (by kernel_rfl) rfl rfl ⟨c0, c1, c2, c4, c5, c6, c7⟩ (fun hHeld => ?_)
  refine pure_ (i := 0) (N := some 7) (v := ?_) (a' := ?_) #[true, false, false, false, false, false, false, false, false, false, false, false, false, false, false, false, false, false, false, false, false, false, false, false, false, false, false, false, false] rfl rfl (by kernel_rfl) (fun _ _ _ h => h) (Or.inl ⟨by rfl, ?_⟩) ?_ ?_
  rotate_left
  · intro w'
    go_simp
    with_reducible rfl
  rotate_left
  · simp only [Act.put, List.setIfInBounds_toArray, List.set_cons_zero, List.set_cons_succ, i64_w, i32_w]
    rfl
  refine pure_ (i := 1) (N := some 8) (v := ?_) (a' := ?_) #[true, true, false, false, false, false, false, false, false, false, false, false, false, false, false, false, false, false, false, false, false, false, false, false, false, false, false, false, false] rfl rfl (by kernel_rfl) (fun _ _ _ h => h) (Or.inl ⟨by rfl, ?_⟩) ?_ ?_
  rotate_left
  · intro w'
    go_simp
    with_reducible rfl
  rotate_left
  · simp only [Act.put, List.setIfInBounds_toArray, List.set_cons_zero, List.set_cons_succ, i64_w, i32_w]
    rfl
  refine pure_ (i := 2) (N := some 9) (v := ?_) (a' := ?_) #[true, true, true, false, false, false, false, false, false, false, false, false, false, false, false, false, false, false, false, false, false, false, false, false, false, false, false, false, false] rfl rfl (by kernel_rfl) (fun _ _ _ h => h) (Or.inl ⟨by rfl, ?_⟩) ?_ ?_
  rotate_left
  · intro w'
    go_simp
    with_reducible rfl
  rotate_left
  · simp only [Act.put, List.setIfInBounds_toArray, List.set_cons_zero, List.set_cons_succ, i64_w, i32_w]
    rfl
  refine pure_ (i := 6) (N := some 13) (v := ?_) (a' := ?_) #[true, true, true, false, false, false, true, false, false, false, false, false, false, false, false, false, false, false, false, false, false, false, false, false, false, false, false, false, false] rfl rfl (by kernel_rfl) (fun _ _ _ h => h) (Or.inl ⟨by rfl, ?_⟩) ?_ ?_
  rotate_left
  · intro w'
    go_simp
    with_reducible rfl
  rotate_left
  · simp only [Act.put, List.setIfInBounds_toArray, List.set_cons_zero, List.set_cons_succ, i64_w, i32_w]
    rfl
  refine pure_ (i := 7) (N := some 14) (v := ?_) (a' := ?_) #[true, true, true, false, false, false, true, true, false, false, false, false, false, false, false, false, false, false, false, false, false, false, false, false, false, false, false, false, false] rfl rfl (by kernel_rfl) (fun _ _ _ h => h) (Or.inl ⟨by rfl, ?_⟩) ?_ ?_
  rotate_left
  · intro w'
    go_simp
    with_reducible rfl
  rotate_left
  · simp only [Act.put, List.setIfInBounds_toArray, List.set_cons_zero, List.set_cons_succ, i64_w, i32_w]
    rfl
  refine pure_ (i := 8) (N := some 15) (v := ?_) (a' := ?_) #[true, true, true, false, false, false, true, true, true, false, false, false, false, false, false, false, false, false, false, false, false, false, false, false, false, false, false, false, false] rfl rfl (by kernel_rfl) (fun _ _ _ h => h) (Or.inl ⟨by rfl, ?_⟩) ?_ ?_
  rotate_left
  · intro w'
    go_simp
    with_reducible rfl
  rotate_left
  · simp only [Act.put, List.setIfInBounds_toArray, List.set_cons_zero, List.set_cons_succ, i64_w, i32_w]
    rfl
  refine pure_ (i := 12) (N := some 19) (v := ?_) (a' := ?_) #[true, true, true, false, false, false, true, true, true, false, false, false, true, false, false, false, false, false, false, false, false, false, false, false, false, false, false, false, false] rfl rfl (by kernel_rfl) (fun _ _ _ h => h) (Or.inl ⟨by rfl, ?_⟩) ?_ ?_
  rotate_left
  · intro w'
    go_simp
    with_reducible rfl
  rotate_left
  · simp only [Act.put, List.setIfInBounds_toArray, List.set_cons_zero, List.set_cons_succ, i64_w, i32_w]
    rfl
  refine pure_ (i := 13) (N := some 20) (v := ?_) (a' := ?_) #[true, true, true, false, false, false, true, true, true, false, false, false, true, true, false, false, false, false, false, false, false, false, false, false, false, false, false, false, false] rfl rfl (by kernel_rfl) (fun _ _ _ h => h) (Or.inl ⟨by rfl, ?_⟩) ?_ ?_
  rotate_left
  · intro w'
    go_simp
    with_reducible rfl
  rotate_left
  · simp only [Act.put, List.setIfInBounds_toArray, List.set_cons_zero, List.set_cons_succ, i64_w, i32_w]
    rfl
  refine pure_ (i := 14) (N := some 21) (v := ?_) (a' := ?_) #[true, true, true, false, false, false, true, true, true, false, false, false, true, true, true, false, false, false, false, false, false, false, false, false, false, false, false, false, false] rfl rfl (by kernel_rfl) (fun _ _ _ h => h) (Or.inl ⟨by rfl, ?_⟩) ?_ ?_
  rotate_left
  · intro w'
    go_simp
    with_reducible rfl
  rotate_left
  · simp only [Act.put, List.setIfInBounds_toArray, List.set_cons_zero, List.set_cons_succ, i64_w, i32_w]
    rfl
  refine pure_ (i := 18) (N := some 25) (v := ?_) (a' := ?_) #[true, true, true, false, false, false, true, true, true, false, false, false, true, true, true, false, false, false, true, false, false, false, false, false, false, false, false, false, false] rfl rfl (by kernel_rfl) (fun _ _ _ h => h) (Or.inl ⟨by rfl, ?_⟩) ?_ ?_
  rotate_left
  · intro w'
    go_simp
    with_reducible rfl
  rotate_left
  · simp only [Act.put, List.setIfInBounds_toArray, List.set_cons_zero, List.set_cons_succ, i64_w, i32_w]
    rfl
  refine pure_ (i := 19) (N := some 26) (v := ?_) (a' := ?_) #[true, true, true, false, false, false, true, true, true, false, false, false, true, true, true, false, false, false, true, true, false, false, false, false, false, false, false, false, false] rfl rfl (by kernel_rfl) (fun _ _ _ h => h) (Or.inl ⟨by rfl, ?_⟩) ?_ ?_
  rotate_left
  · intro w'
    go_simp
    with_reducible rfl
  rotate_left
  · simp only [Act.put, List.setIfInBounds_toArray, List.set_cons_zero, List.set_cons_succ, i64_w, i32_w]
    rfl
  refine pure_ (i := 20) (N := some 27) (v := ?_) (a' := ?_) #[true, true, true, false, false, false, true, true, true, false, false, false, true, true, true, false, false, false, true, true, true, false, false, false, false, false, false, false, false] rfl rfl (by kernel_rfl) (fun _ _ _ h => h) (Or.inl ⟨by rfl, ?_⟩) ?_ ?_
  rotate_left
  · intro w'
    go_simp
    with_reducible rfl
  rotate_left
  · simp only [Act.put, List.setIfInBounds_toArray, List.set_cons_zero, List.set_cons_succ, i64_w, i32_w]
    rfl
  refine pure_ (i := 22) (N := some 29) (v := ?_) (a' := ?_) #[true, true, true, false, false, false, true, true, true, false, false, false, true, true, true, false, false, false, true, true, true, false, true, false, false, false, false, false, false] rfl rfl (by kernel_rfl) (fun _ _ _ h => h) (Or.inl ⟨by rfl, ?_⟩) ?_ ?_
  rotate_left
  · intro w'
    go_simp
    with_reducible rfl
  rotate_left
  · simp only [Act.put, List.setIfInBounds_toArray, List.set_cons_zero, List.set_cons_succ, i64_w, i32_w]
    rfl
  refine pure_ (i := 23) (N := some 30) (v := ?_) (a' := ?_) #[true, true, true, false, false, false, true, true, true, false, false, false, true, true, true, false, false, false, true, true, true, false, true, true, false, false, false, false, false] rfl rfl (by kernel_rfl) (fun _ _ _ h => h) (Or.inl ⟨by rfl, ?_⟩) ?_ ?_
  rotate_left
  · intro w'
    go_simp
    with_reducible rfl
  rotate_left
  · simp only [Act.put, List.setIfInBounds_toArray, List.set_cons_zero, List.set_cons_succ, i64_w, i32_w]
    rfl
  refine pure_ (i := 24) (N := some 31) (v := ?_) (a' := ?_) #[true, true, true, false, false, false, true, true, true, false, false, false, true, true, true, false, false, false, true, true, true, false, true, true, true, false, false, false, false] rfl rfl (by kernel_rfl) (fun _ _ _ h => h) (Or.inl ⟨by rfl, ?_⟩) ?_ ?_
  rotate_left
  · intro w'
    go_simp
    with_reducible rfl
  rotate_left
  · simp only [Act.put, List.setIfInBounds_toArray, List.set_cons_zero, List.set_cons_succ, i64_w, i32_w]
    rfl
  refine take_ (i := 3) (N := some 10) (v := ?_) (a' := ?_) #[true, true, true, true, false, false, true, true, true, false, false, false, true, true, true, false, false, false, true, true, true, false, true, true, true, false, false, false, false] rfl rfl (by kernel_rfl) (fun _ _ _ h => h) (Or.inl ⟨by rfl, ?_⟩) hHeld ?_ ?_
  rotate_left
  · rintro w' ⟨s0, s1, s2, s3, s4, s5, s6⟩
    go_simp
    with_reducible rfl
  rotate_left
  · simp only [Act.put, List.setIfInBounds_toArray, List.set_cons_zero, List.set_cons_succ, i64_w, i32_w]
    rfl
  refine pure_ (i := 4) (N := some 11) (v := ?_) (a' := ?_) #[true, true, true, true, true, false, true, true, true, false, false, false, true, true, true, false, false, false, true, true, true, false, true, true, true, false, false, false, false] rfl rfl (by kernel_rfl) (fun _ _ _ h => h) (Or.inl ⟨by rfl, ?_⟩) ?_ ?_
  rotate_left
  · intro w'
    go_simp
    with_reducible rfl
  rotate_left
  · simp only [Act.put, List.setIfInBounds_toArray, List.set_cons_zero, List.set_cons_succ, i64_w, i32_w]
    rfl
  refine take_ (i := 9) (N := some 16) (v := ?_) (a' := ?_) #[true, true, true, true, true, false, true, true, true, true, false, false, true, true, true, false, false, false, true, true, true, false, true, true, true, false, false, false, false] rfl rfl (by kernel_rfl) (fun _ _ _ h => h) (Or.inl ⟨by rfl, ?_⟩) hHeld ?_ ?_
  rotate_left
  · rintro w' ⟨s0, s1, s2, s3, s4, s5, s6⟩
    go_simp
    with_reducible rfl
  rotate_left
  · simp only [Act.put, List.setIfInBounds_toArray, List.set_cons_zero, List.set_cons_succ, i64_w, i32_w]
    rfl
  refine pure_ (i := 10) (N := some 17) (v := ?_) (a' := ?_) #[true, true, true, true, true, false, true, true, true, true, true, false, true, true, true, false, false, false, true, true, true, false, true, true, true, false, false, false, false] rfl rfl (by kernel_rfl) (fun _ _ _ h => h) (Or.inl ⟨by rfl, ?_⟩) ?_ ?_
  rotate_left
  · intro w'
    go_simp
    with_reducible rfl
  rotate_left
  · simp only [Act.put, List.setIfInBounds_toArray, List.set_cons_zero, List.set_cons_succ, i64_w, i32_w]
    rfl
  refine take_ (i := 15) (N := some 22) (v := ?_) (a' := ?_) #[true, true, true, true, true, false, true, true, true, true, true, false, true, true, true, true, false, false, true, true, true, false, true, true, true, false, false, false, false] rfl rfl (by kernel_rfl) (fun _ _ _ h => h) (Or.inl ⟨by rfl, ?_⟩) hHeld ?_ ?_
  rotate_left
  · rintro w' ⟨s0, s1, s2, s3, s4, s5, s6⟩
    go_simp
    with_reducible rfl
  rotate_left
  · simp only [Act.put, List.setIfInBounds_toArray, List.set_cons_zero, List.set_cons_succ, i64_w, i32_w]
    rfl
  refine take_ (i := 21) (N := some 28) (v := ?_) (a' := ?_) #[true, true, true, true, true, false, true, true, true, true, true, false, true, true, true, true, false, false, true, true, true, true, true, true, true, false, false, false, false] rfl rfl (by kernel_rfl) (fun _ _ _ h => h) (Or.inl ⟨by rfl, ?_⟩) hHeld ?_ ?_
  rotate_left
  · rintro w' ⟨s0, s1, s2, s3, s4, s5, s6⟩
    go_simp
    with_reducible rfl
  rotate_left
  · simp only [Act.put, List.setIfInBounds_toArray, List.set_cons_zero, List.set_cons_succ, i64_w, i32_w]
    rfl
  refine take_ (i := 25) (N := some 32) (v := ?_) (a' := ?_) #[true, true, true, true, true, false, true, true, true, true, true, false, true, true, true, true, false, false, true, true, true, true, true, true, true, true, false, false, false] rfl rfl (by kernel_rfl) (fun _ _ _ h => h) (Or.inl ⟨by rfl, ?_⟩) hHeld ?_ ?_
  rotate_left
  · rintro w' ⟨s0, s1, s2, s3, s4, s5, s6⟩
    go_simp
    with_reducible rfl
  rotate_left
  · simp only [Act.put, List.setIfInBounds_toArray, List.set_cons_zero, List.set_cons_succ, i64_w, i32_w]
    rfl
  refine join_ (σ := Nat × Nat × (Option Addr × Nat) × Nat) 3 #[true, true, true, true, true, true, true, true, true, true, true, true, true, true, true, true, true, true, true, true, true, true, true, true, true, true, false, false, false] (fun s_ => [(12, .slice (some ⟨s_.1, 0, none⟩) n n), (18, .slice (some ⟨s_.2.1, 0, none⟩) n n), (23, .slice s_.2.2.1.1 np s_.2.2.1.2), (24, .map (some s_.2.2.2))]) (fun s_ w' => (w'.cell? ⟨L.g, 0, none⟩ = some (.slice (some ⟨L.sb, 0, none⟩) n n) ∧ w'.cell? ⟨L.g, 1, none⟩ = some (.slice (some ⟨L.ob, 0, none⟩) n n) ∧ w'.cell? ⟨L.g, 2, none⟩ = some (.slice Ap np cp) ∧ w'.cell? ⟨L.g, 4, none⟩ = some (.bool fs) ∧ w'.cell? ⟨L.g, 5, none⟩ = some (.int .i64 fl) ∧ w'.cell? ⟨L.g, 6, none⟩ = some (.slice Au nu cu) ∧ w'.cell? ⟨L.g, 7, none⟩ = some (.bool fd)) ∧ Aside0 (Below W.heap.size W w') ∧ Aside0 (w'.heap[s_.1]? = some (.cells (strs (List.replicate n ⟨#[]⟩)) 9 (0, 0)) ∧ W.heap.size ≤ s_.1) ∧ Aside0 (w'.heap[s_.2.1]? = some (.cells (nils n) 26 (0, 0)) ∧ W.heap.size ≤ s_.2.1) ∧ Aside0 (Kd.R k99 84 w' W.heap.size (fun k => W.heap.size ≤ k) (.slice s_.2.2.1.1 np s_.2.2.1.2) xs) ∧ Aside0 (w'.heap[s_.2.2.2]? = some (.map #[] 0) ∧ W.heap.size ≤ s_.2.2.2)) ?_ ?_
  rotate_left
  · intro hJ5_11_16_17
    refine join_ (σ := Nat × Nat × (Option Addr × Nat)) 4 #[true, true, true, true, true, true, true, true, true, true, true, true, true, true, true, true, true, false, true, true, true, true, true, true, true, true, false, false, false] (fun s_ => [(12, .slice (some ⟨s_.1, 0, none⟩) n n), (18, .slice (some ⟨s_.2.1, 0, none⟩) n n), (23, .slice s_.2.2.1 np s_.2.2.2)]) (fun s_ w' => (w'.cell? ⟨L.g, 0, none⟩ = some (.slice (some ⟨L.sb, 0, none⟩) n n) ∧ w'.cell? ⟨L.g, 1, none⟩ = some (.slice (some ⟨L.ob, 0, none⟩) n n) ∧ w'.cell? ⟨L.g, 2, none⟩ = some (.slice Ap np cp) ∧ w'.cell? ⟨L.g, 4, none⟩ = some (.bool fs) ∧ w'.cell? ⟨L.g, 5, none⟩ = some (.int .i64 fl) ∧ w'.cell? ⟨L.g, 6, none⟩ = some (.slice Au nu cu) ∧ w'.cell? ⟨L.g, 7, none⟩ = some (.bool fd)) ∧ Aside0 (Below W.heap.size W w') ∧ Aside0 (w'.heap[s_.1]? = some (.cells (strs (List.replicate n ⟨#[]⟩)) 9 (0, 0)) ∧ W.heap.size ≤ s_.1) ∧ Aside0 (w'.heap[s_.2.1]? = some (.cells (nils n) 26 (0, 0)) ∧ W.heap.size ≤ s_.2.1) ∧ Aside0 (Kd.R k99 84 w' W.heap.size (fun k => W.heap.size ≤ k) (.slice s_.2.2.1 np s_.2.2.2) xs)) ?_ ?_
    rotate_left
    · intro hJ5_11_16
      refine join_ (σ := Nat × Nat × Nat) 4 #[true, true, true, true, true, true, true, true, true, true, true, true, true, true, true, true, false, true, true, true, true, true, true, true, true, true, false, false, false] (fun s_ => [(12, .slice (some ⟨s_.1, 0, none⟩) n n), (18, .slice (some ⟨s_.2.1, 0, none⟩) n n), (24, .map (some s_.2.2))]) (fun s_ w' => (w'.cell? ⟨L.g, 0, none⟩ = some (.slice (some ⟨L.sb, 0, none⟩) n n) ∧ w'.cell? ⟨L.g, 1, none⟩ = some (.slice (some ⟨L.ob, 0, none⟩) n n) ∧ w'.cell? ⟨L.g, 2, none⟩ = some (.slice Ap np cp) ∧ w'.cell? ⟨L.g, 4, none⟩ = some (.bool fs) ∧ w'.cell? ⟨L.g, 5, none⟩ = some (.int .i64 fl) ∧ w'.cell? ⟨L.g, 6, none⟩ = some (.slice Au nu cu) ∧ w'.cell? ⟨L.g, 7, none⟩ = some (.bool fd)) ∧ Aside0 (Below W.heap.size W w') ∧ Aside0 (w'.heap[s_.1]? = some (.cells (strs (List.replicate n ⟨#[]⟩)) 9 (0, 0)) ∧ W.heap.size ≤ s_.1) ∧ Aside0 (w'.heap[s_.2.1]? = some (.cells (nils n) 26 (0, 0)) ∧ W.heap.size ≤ s_.2.1) ∧ Aside0 (w'.heap[s_.2.2]? = some (.map #[] 0) ∧ W.heap.size ≤ s_.2.2)) ?_ ?_
      rotate_left
      · intro hJ5_11_17
        refine join_ (σ := Nat × (Option Addr × Nat) × Nat) 4 #[true, true, true, true, true, true, true, true, true, true, true, false, true, true, true, true, true, true, true, true, true, true, true, true, true, true, false, false, false] (fun s_ => [(12, .slice (some ⟨s_.1, 0, none⟩) n n), (23, .slice s_.2.1.1 np s_.2.1.2), (24, .map (some s_.2.2))]) (fun s_ w' => (w'.cell? ⟨L.g, 0, none⟩ = some (.slice (some ⟨L.sb, 0, none⟩) n n) ∧ w'.cell? ⟨L.g, 1, none⟩ = some (.slice (some ⟨L.ob, 0, none⟩) n n) ∧ w'.cell? ⟨L.g, 2, none⟩ = some (.slice Ap np cp) ∧ w'.cell? ⟨L.g, 4, none⟩ = some (.bool fs) ∧ w'.cell? ⟨L.g, 5, none⟩ = some (.int .i64 fl) ∧ w'.cell? ⟨L.g, 6, none⟩ = some (.slice Au nu cu) ∧ w'.cell? ⟨L.g, 7, none⟩ = some (.bool fd)) ∧ Aside0 (Below W.heap.size W w') ∧ Aside0 (w'.heap[s_.1]? = some (.cells (strs (List.replicate n ⟨#[]⟩)) 9 (0, 0)) ∧ W.heap.size ≤ s_.1) ∧ Aside0 (Kd.R k99 84 w' W.heap.size (fun k => W.heap.size ≤ k) (.slice s_.2.1.1 np s_.2.1.2) xs) ∧ Aside0 (w'.heap[s_.2.2]? = some (.map #[] 0) ∧ W.heap.size ≤ s_.2.2)) ?_ ?_
        rotate_left
        · intro hJ5_16_17
          refine join_ (σ := Nat × (Option Addr × Nat) × Nat) 4 #[true, true, true, true, true, false, true, true, true, true, true, true, true, true, true, true, true, true, true, true, true, true, true, true, true, true, false, false, false] (fun s_ => [(18, .slice (some ⟨s_.1, 0, none⟩) n n), (23, .slice s_.2.1.1 np s_.2.1.2), (24, .map (some s_.2.2))]) (fun s_ w' => (w'.cell? ⟨L.g, 0, none⟩ = some (.slice (some ⟨L.sb, 0, none⟩) n n) ∧ w'.cell? ⟨L.g, 1, none⟩ = some (.slice (some ⟨L.ob, 0, none⟩) n n) ∧ w'.cell? ⟨L.g, 2, none⟩ = some (.slice Ap np cp) ∧ w'.cell? ⟨L.g, 4, none⟩ = some (.bool fs) ∧ w'.cell? ⟨L.g, 5, none⟩ = some (.int .i64 fl) ∧ w'.cell? ⟨L.g, 6, none⟩ = some (.slice Au nu cu) ∧ w'.cell? ⟨L.g, 7, none⟩ = some (.bool fd)) ∧ Aside0 (Below W.heap.size W w') ∧ Aside0 (w'.heap[s_.1]? = some (.cells (nils n) 26 (0, 0)) ∧ W.heap.size ≤ s_.1) ∧ Aside0 (Kd.R k99 84 w' W.heap.size (fun k => W.heap.size ≤ k) (.slice s_.2.1.1 np s_.2.1.2) xs) ∧ Aside0 (w'.heap[s_.2.2]? = some (.map #[] 0) ∧ W.heap.size ≤ s_.2.2)) ?_ ?_
          rotate_left
          · intro hJ11_16_17
            refine join_ (σ := Nat × Nat) 5 #[true, true, true, true, true, true, true, true, true, true, true, true, true, true, true, true, false, false, true, true, true, true, true, true, true, true, false, false, false] (fun s_ => [(12, .slice (some ⟨s_.1, 0, none⟩) n n), (18, .slice (some ⟨s_.2, 0, none⟩) n n)]) (fun s_ w' => (w'.cell? ⟨L.g, 0, none⟩ = some (.slice (some ⟨L.sb, 0, none⟩) n n) ∧ w'.cell? ⟨L.g, 1, none⟩ = some (.slice (some ⟨L.ob, 0, none⟩) n n) ∧ w'.cell? ⟨L.g, 2, none⟩ = some (.slice Ap np cp) ∧ w'.cell? ⟨L.g, 4, none⟩ = some (.bool fs) ∧ w'.cell? ⟨L.g, 5, none⟩ = some (.int .i64 fl) ∧ w'.cell? ⟨L.g, 6, none⟩ = some (.slice Au nu cu) ∧ w'.cell? ⟨L.g, 7, none⟩ = some (.bool fd)) ∧ Aside0 (Below W.heap.size W w') ∧ Aside0 (w'.heap[s_.1]? = some (.cells (strs (List.replicate n ⟨#[]⟩)) 9 (0, 0)) ∧ W.heap.size ≤ s_.1) ∧ Aside0 (w'.heap[s_.2]? = some (.cells (nils n) 26 (0, 0)) ∧ W.heap.size ≤ s_.2)) ?_ ?_
            rotate_left
            · intro hJ5_11
              refine join_ (σ := Nat × (Option Addr × Nat)) 5 #[true, true, true, true, true, true, true, true, true, true, true, false, true, true, true, true, true, false, true, true, true, true, true, true, true, true, false, false, false] (fun s_ => [(12, .slice (some ⟨s_.1, 0, none⟩) n n), (23, .slice s_.2.1 np s_.2.2)]) (fun s_ w' => (w'.cell? ⟨L.g, 0, none⟩ = some (.slice (some ⟨L.sb, 0, none⟩) n n) ∧ w'.cell? ⟨L.g, 1, none⟩ = some (.slice (some ⟨L.ob, 0, none⟩) n n) ∧ w'.cell? ⟨L.g, 2, none⟩ = some (.slice Ap np cp) ∧ w'.cell? ⟨L.g, 4, none⟩ = some (.bool fs) ∧ w'.cell? ⟨L.g, 5, none⟩ = some (.int .i64 fl) ∧ w'.cell? ⟨L.g, 6, none⟩ = some (.slice Au nu cu) ∧ w'.cell? ⟨L.g, 7, none⟩ = some (.bool fd)) ∧ Aside0 (Below W.heap.size W w') ∧ Aside0 (w'.heap[s_.1]? = some (.cells (strs (List.replicate n ⟨#[]⟩)) 9 (0, 0)) ∧ W.heap.size ≤ s_.1) ∧ Aside0 (Kd.R k99 84 w' W.heap.size (fun k => W.heap.size ≤ k) (.slice s_.2.1 np s_.2.2) xs)) ?_ ?_
              rotate_left
              · intro hJ5_16
                refine join_ (σ := Nat × Nat) 5 #[true, true, true, true, true, true, true, true, true, true, true, false, true, true, true, true, false, true, true, true, true, true, true, true, true, true, false, false, false] (fun s_ => [(12, .slice (some ⟨s_.1, 0, none⟩) n n), (24, .map (some s_.2))]) (fun s_ w' => (w'.cell? ⟨L.g, 0, none⟩ = some (.slice (some ⟨L.sb, 0, none⟩) n n) ∧ w'.cell? ⟨L.g, 1, none⟩ = some (.slice (some ⟨L.ob, 0, none⟩) n n) ∧ w'.cell? ⟨L.g, 2, none⟩ = some (.slice Ap np cp) ∧ w'.cell? ⟨L.g, 4, none⟩ = some (.bool fs) ∧ w'.cell? ⟨L.g, 5, none⟩ = some (.int .i64 fl) ∧ w'.cell? ⟨L.g, 6, none⟩ = some (.slice Au nu cu) ∧ w'.cell? ⟨L.g, 7, none⟩ = some (.bool fd)) ∧ Aside0 (Below W.heap.size W w') ∧ Aside0 (w'.heap[s_.1]? = some (.cells (strs (List.replicate n ⟨#[]⟩)) 9 (0, 0)) ∧ W.heap.size ≤ s_.1) ∧ Aside0 (w'.heap[s_.2]? = some (.map #[] 0) ∧ W.heap.size ≤ s_.2)) ?_ ?_
                rotate_left
                · intro hJ5_17
                  refine join_ (σ := Nat × (Option Addr × Nat)) 5 #[true, true, true, true, true, false, true, true, true, true, true, true, true, true, true, true, true, false, true, true, true, true, true, true, true, true, false, false, false] (fun s_ => [(18, .slice (some ⟨s_.1, 0, none⟩) n n), (23, .slice s_.2.1 np s_.2.2)]) (fun s_ w' => (w'.cell? ⟨L.g, 0, none⟩ = some (.slice (some ⟨L.sb, 0, none⟩) n n) ∧ w'.cell? ⟨L.g, 1, none⟩ = some (.slice (some ⟨L.ob, 0, none⟩) n n) ∧ w'.cell? ⟨L.g, 2, none⟩ = some (.slice Ap np cp) ∧ w'.cell? ⟨L.g, 4, none⟩ = some (.bool fs) ∧ w'.cell? ⟨L.g, 5, none⟩ = some (.int .i64 fl) ∧ w'.cell? ⟨L.g, 6, none⟩ = some (.slice Au nu cu) ∧ w'.cell? ⟨L.g, 7, none⟩ = some (.bool fd)) ∧ Aside0 (Below W.heap.size W w') ∧ Aside0 (w'.heap[s_.1]? = some (.cells (nils n) 26 (0, 0)) ∧ W.heap.size ≤ s_.1) ∧ Aside0 (Kd.R k99 84 w' W.heap.size (fun k => W.heap.size ≤ k) (.slice s_.2.1 np s_.2.2) xs)) ?_ ?_
                  rotate_left
                  · intro hJ11_16
                    refine join_ (σ := Nat × Nat) 5 #[true, true, true, true, true, false, true, true, true, true, true, true, true, true, true, true, false, true, true, true, true, true, true, true, true, true, false, false, false] (fun s_ => [(18, .slice (some ⟨s_.1, 0, none⟩) n n), (24, .map (some s_.2))]) (fun s_ w' => (w'.cell? ⟨L.g, 0, none⟩ = some (.slice (some ⟨L.sb, 0, none⟩) n n) ∧ w'.cell? ⟨L.g, 1, none⟩ = some (.slice (some ⟨L.ob, 0, none⟩) n n) ∧ w'.cell? ⟨L.g, 2, none⟩ = some (.slice Ap np cp) ∧ w'.cell? ⟨L.g, 4, none⟩ = some (.bool fs) ∧ w'.cell? ⟨L.g, 5, none⟩ = some (.int .i64 fl) ∧ w'.cell? ⟨L.g, 6, none⟩ = some (.slice Au nu cu) ∧ w'.cell? ⟨L.g, 7, none⟩ = some (.bool fd)) ∧ Aside0 (Below W.heap.size W w') ∧ Aside0 (w'.heap[s_.1]? = some (.cells (nils n) 26 (0, 0)) ∧ W.heap.size ≤ s_.1) ∧ Aside0 (w'.heap[s_.2]? = some (.map #[] 0) ∧ W.heap.size ≤ s_.2)) ?_ ?_
                    rotate_left
                    · intro hJ11_17
                      refine join_ (σ := (Option Addr × Nat) × Nat) 5 #[true, true, true, true, true, false, true, true, true, true, true, false, true, true, true, true, true, true, true, true, true, true, true, true, true, true, false, false, false] (fun s_ => [(23, .slice s_.1.1 np s_.1.2), (24, .map (some s_.2))]) (fun s_ w' => (w'.cell? ⟨L.g, 0, none⟩ = some (.slice (some ⟨L.sb, 0, none⟩) n n) ∧ w'.cell? ⟨L.g, 1, none⟩ = some (.slice (some ⟨L.ob, 0, none⟩) n n) ∧ w'.cell? ⟨L.g, 2, none⟩ = some (.slice Ap np cp) ∧ w'.cell? ⟨L.g, 4, none⟩ = some (.bool fs) ∧ w'.cell? ⟨L.g, 5, none⟩ = some (.int .i64 fl) ∧ w'.cell? ⟨L.g, 6, none⟩ = some (.slice Au nu cu) ∧ w'.cell? ⟨L.g, 7, none⟩ = some (.bool fd)) ∧ Aside0 (Below W.heap.size W w') ∧ Aside0 (Kd.R k99 84 w' W.heap.size (fun k => W.heap.size ≤ k) (.slice s_.1.1 np s_.1.2) xs) ∧ Aside0 (w'.heap[s_.2]? = some (.map #[] 0) ∧ W.heap.size ≤ s_.2)) ?_ ?_
                      rotate_left
                      · intro hJ16_17
                        refine join_ (σ := Nat) 6 #[true, true, true, true, true, true, true, true, true, true, true, false, true, true, true, true, false, false, true, true, true, true, true, true, true, true, false, false, false] (fun s_ => [(12, .slice (some ⟨s_, 0, none⟩) n n)]) (fun s_ w' => (w'.cell? ⟨L.g, 0, none⟩ = some (.slice (some ⟨L.sb, 0, none⟩) n n) ∧ w'.cell? ⟨L.g, 1, none⟩ = some (.slice (some ⟨L.ob, 0, none⟩) n n) ∧ w'.cell? ⟨L.g, 2, none⟩ = some (.slice Ap np cp) ∧ w'.cell? ⟨L.g, 4, none⟩ = some (.bool fs) ∧ w'.cell? ⟨L.g, 5, none⟩ = some (.int .i64 fl) ∧ w'.cell? ⟨L.g, 6, none⟩ = some (.slice Au nu cu) ∧ w'.cell? ⟨L.g, 7, none⟩ = some (.bool fd)) ∧ Aside0 (Below W.heap.size W w') ∧ Aside0 (w'.heap[s_]? = some (.cells (strs (List.replicate n ⟨#[]⟩)) 9 (0, 0)) ∧ W.heap.size ≤ s_)) ?_ ?_
                        rotate_left
                        · intro hJ5
                          refine join_ (σ := Nat) 6 #[true, true, true, true, true, false, true, true, true, true, true, true, true, true, true, true, false, false, true, true, true, true, true, true, true, true, false, false, false] (fun s_ => [(18, .slice (some ⟨s_, 0, none⟩) n n)]) (fun s_ w' => (w'.cell? ⟨L.g, 0, none⟩ = some (.slice (some ⟨L.sb, 0, none⟩) n n) ∧ w'.cell? ⟨L.g, 1, none⟩ = some (.slice (some ⟨L.ob, 0, none⟩) n n) ∧ w'.cell? ⟨L.g, 2, none⟩ = some (.slice Ap np cp) ∧ w'.cell? ⟨L.g, 4, none⟩ = some (.bool fs) ∧ w'.cell? ⟨L.g, 5, none⟩ = some (.int .i64 fl) ∧ w'.cell? ⟨L.g, 6, none⟩ = some (.slice Au nu cu) ∧ w'.cell? ⟨L.g, 7, none⟩ = some (.bool fd)) ∧ Aside0 (Below W.heap.size W w') ∧ Aside0 (w'.heap[s_]? = some (.cells (nils n) 26 (0, 0)) ∧ W.heap.size ≤ s_)) ?_ ?_
                          rotate_left
                          · intro hJ11
                            refine join_ (σ := (Option Addr × Nat)) 6 #[true, true, true, true, true, false, true, true, true, true, true, false, true, true, true, true, true, false, true, true, true, true, true, true, true, true, false, false, false] (fun s_ => [(23, .slice s_.1 np s_.2)]) (fun s_ w' => (w'.cell? ⟨L.g, 0, none⟩ = some (.slice (some ⟨L.sb, 0, none⟩) n n) ∧ w'.cell? ⟨L.g, 1, none⟩ = some (.slice (some ⟨L.ob, 0, none⟩) n n) ∧ w'.cell? ⟨L.g, 2, none⟩ = some (.slice Ap np cp) ∧ w'.cell? ⟨L.g, 4, none⟩ = some (.bool fs) ∧ w'.cell? ⟨L.g, 5, none⟩ = some (.int .i64 fl) ∧ w'.cell? ⟨L.g, 6, none⟩ = some (.slice Au nu cu) ∧ w'.cell? ⟨L.g, 7, none⟩ = some (.bool fd)) ∧ Aside0 (Below W.heap.size W w') ∧ Aside0 (Kd.R k99 84 w' W.heap.size (fun k => W.heap.size ≤ k) (.slice s_.1 np s_.2) xs)) ?_ ?_
                            rotate_left
                            · intro hJ16
                              refine join_ (σ := Nat) 6 #[true, true, true, true, true, false, true, true, true, true, true, false, true, true, true, true, false, true, true, true, true, true, true, true, true, true, false, false, false] (fun s_ => [(24, .map (some s_))]) (fun s_ w' => (w'.cell? ⟨L.g, 0, none⟩ = some (.slice (some ⟨L.sb, 0, none⟩) n n) ∧ w'.cell? ⟨L.g, 1, none⟩ = some (.slice (some ⟨L.ob, 0, none⟩) n n) ∧ w'.cell? ⟨L.g, 2, none⟩ = some (.slice Ap np cp) ∧ w'.cell? ⟨L.g, 4, none⟩ = some (.bool fs) ∧ w'.cell? ⟨L.g, 5, none⟩ = some (.int .i64 fl) ∧ w'.cell? ⟨L.g, 6, none⟩ = some (.slice Au nu cu) ∧ w'.cell? ⟨L.g, 7, none⟩ = some (.bool fd)) ∧ Aside0 (Below W.heap.size W w') ∧ Aside0 (w'.heap[s_]? = some (.map #[] 0) ∧ W.heap.size ≤ s_)) ?_ ?_
                              rotate_left
                              · intro hJ17
                                refine four_ (i := 5) (j := 11) (k := 16) (m := 17) (Ni := some 12) (Nj := some 18) (Nk := some 23) (Nm := some 24) #[true, true, true, true, true, true, true, true, true, true, true, false, true, true, true, true, false, false, true, true, true, true, true, true, true, true, false, false, false] #[true, true, true, true, true, false, true, true, true, true, true, true, true, true, true, true, false, false, true, true, true, true, true, true, true, true, false, false, false] #[true, true, true, true, true, false, true, true, true, true, true, false, true, true, true, true, true, false, true, true, true, true, true, true, true, true, false, false, false] #[true, true, true, true, true, false, true, true, true, true, true, false, true, true, true, true, false, true, true, true, true, true, true, true, true, true, false, false, false] rfl rfl rfl rfl rfl rfl rfl rfl (by kernel_rfl) (by decide) (by decide) (by decide) (by decide) (fun K hK => ?_) (fun K hK => ?_) (fun K hK => ?_) (fun K hK => ?_)
                                · skip
                                  refine value_ (w1 := ?_) (v := ?_) (by rfl) rfl ?_ ?_
                                  rotate_left 2
                                  · go_simp
                                    constructor
                                    · rfl
                                    · rfl
                                  refine hK.out _ _ ⟨((((below_alloc (Below.refl _ _) _)).cell (World.block_lt_of_cell? _ _ (hHeld.1))).trans (hHeld.1)), ((((below_alloc (Below.refl _ _) _)).cell (World.block_lt_of_cell? _ _ (hHeld.2.1))).trans (hHeld.2.1)), ((((below_alloc (Below.refl _ _) _)).cell (World.block_lt_of_cell? _ _ (hHeld.2.2.1))).trans (hHeld.2.2.1)), ((((below_alloc (Below.refl _ _) _)).cell (World.block_lt_of_cell? _ _ (hHeld.2.2.2.1))).trans (hHeld.2.2.2.1)), ((((below_alloc (Below.refl _ _) _)).cell (World.block_lt_of_cell? _ _ (hHeld.2.2.2.2.1))).trans (hHeld.2.2.2.2.1)), ((((below_alloc (Below.refl _ _) _)).cell (World.block_lt_of_cell? _ _ (hHeld.2.2.2.2.2.1))).trans (hHeld.2.2.2.2.2.1)), ((((below_alloc (Below.refl _ _) _)).cell (World.block_lt_of_cell? _ _ (hHeld.2.2.2.2.2.2))).trans (hHeld.2.2.2.2.2.2))⟩ (fun hHeld => ?_)
                                  clear hK K
                                  refine norm_ (a' := ?_) ?_ ?_
                                  rotate_left
                                  · show Act.put _ (some 12) _ = _
                                    simp only [Act.put, List.setIfInBounds_toArray, List.set_cons_zero, List.set_cons_succ, i64_w, i32_w]
                                    rfl
                                  exact norm_ (by first | (simp only [putAll, Act.put, List.setIfInBounds_toArray, List.set_cons_zero, List.set_cons_succ]; done) | (simp only [putAll, Act.put, List.setIfInBounds_toArray, List.set_cons_zero, List.set_cons_succ]; rfl)) (hJ5 (W.drew.heap.size) _ ⟨hHeld, ⟨HBe.out.trans ((below_alloc (Below.refl _ _) _).mono HBe.out.size)⟩, ⟨⟨blk_new _ _, HBe.out.size⟩⟩⟩)
                                · skip
                                  refine value_ (w1 := ?_) (v := ?_) (by rfl) rfl ?_ ?_
                                  rotate_left 2
                                  · go_simp
                                    constructor
                                    · rfl
                                    · rfl
                                  refine hK.out _ _ ⟨((((below_alloc (Below.refl _ _) _)).cell (World.block_lt_of_cell? _ _ (hHeld.1))).trans (hHeld.1)), ((((below_alloc (Below.refl _ _) _)).cell (World.block_lt_of_cell? _ _ (hHeld.2.1))).trans (hHeld.2.1)), ((((below_alloc (Below.refl _ _) _)).cell (World.block_lt_of_cell? _ _ (hHeld.2.2.1))).trans (hHeld.2.2.1)), ((((below_alloc (Below.refl _ _) _)).cell (World.block_lt_of_cell? _ _ (hHeld.2.2.2.1))).trans (hHeld.2.2.2.1)), ((((below_alloc (Below.refl _ _) _)).cell (World.block_lt_of_cell? _ _ (hHeld.2.2.2.2.1))).trans (hHeld.2.2.2.2.1)), ((((below_alloc (Below.refl _ _) _)).cell (World.block_lt_of_cell? _ _ (hHeld.2.2.2.2.2.1))).trans (hHeld.2.2.2.2.2.1)), ((((below_alloc (Below.refl _ _) _)).cell (World.block_lt_of_cell? _ _ (hHeld.2.2.2.2.2.2))).trans (hHeld.2.2.2.2.2.2))⟩ (fun hHeld => ?_)
                                  clear hK K
                                  refine norm_ (a' := ?_) ?_ ?_
                                  rotate_left
                                  · show Act.put _ (some 18) _ = _
                                    simp only [Act.put, List.setIfInBounds_toArray, List.set_cons_zero, List.set_cons_succ, i64_w, i32_w]
                                    rfl
                                  exact norm_ (by first | (simp only [putAll, Act.put, List.setIfInBounds_toArray, List.set_cons_zero, List.set_cons_succ]; done) | (simp only [putAll, Act.put, List.setIfInBounds_toArray, List.set_cons_zero, List.set_cons_succ]; rfl)) (hJ11 (W.drew.heap.size) _ ⟨hHeld, ⟨HBe.out.trans ((below_alloc (Below.refl _ _) _).mono HBe.out.size)⟩, ⟨⟨blk_new _ _, HBe.out.size⟩⟩⟩)
                                · skip
                                  refine goes_ Try.func44 (by kernel_rfl) rfl #[.slice Ap np cp] (by rfl) rfl rfl (by simp only [List.map_toArray, List.map_cons, List.map_nil]; rfl) ?_
                                  with_reducible refine (HCL.out _ HBe.out).mono ?_
                                  rintro e w3 ⟨Aq, cq, rfl, hR, hb⟩
                                  refine ⟨_, rfl, ?_⟩
                                  refine hK.out _ _ ⟨(((hb).cell (World.block_lt_of_cell? _ _ (hHeld.1))).trans (hHeld.1)), (((hb).cell (World.block_lt_of_cell? _ _ (hHeld.2.1))).trans (hHeld.2.1)), (((hb).cell (World.block_lt_of_cell? _ _ (hHeld.2.2.1))).trans (hHeld.2.2.1)), (((hb).cell (World.block_lt_of_cell? _ _ (hHeld.2.2.2.1))).trans (hHeld.2.2.2.1)), (((hb).cell (World.block_lt_of_cell? _ _ (hHeld.2.2.2.2.1))).trans (hHeld.2.2.2.2.1)), (((hb).cell (World.block_lt_of_cell? _ _ (hHeld.2.2.2.2.2.1))).trans (hHeld.2.2.2.2.2.1)), (((hb).cell (World.block_lt_of_cell? _ _ (hHeld.2.2.2.2.2.2))).trans (hHeld.2.2.2.2.2.2))⟩ (fun hHeld => ?_)
                                  clear hK K
                                  refine norm_ (a' := ?_) ?_ ?_
                                  rotate_left
                                  · show Act.put _ (some 23) _ = _
                                    simp only [Act.put, List.setIfInBounds_toArray, List.set_cons_zero, List.set_cons_succ, i64_w, i32_w]
                                    rfl
                                  exact norm_ (by first | (simp only [putAll, Act.put, List.setIfInBounds_toArray, List.set_cons_zero, List.set_cons_succ]; done) | (simp only [putAll, Act.put, List.setIfInBounds_toArray, List.set_cons_zero, List.set_cons_succ]; rfl)) (hJ16 ((Aq, cq)) _ ⟨hHeld, ⟨HBe.out.trans (hb.mono HBe.out.size)⟩, ⟨hR⟩⟩)
                                · skip
                                  refine value_ (w1 := ?_) (v := ?_) (by rfl) rfl ?_ ?_
                                  rotate_left 2
                                  · go_simp
                                    constructor
                                    · rfl
                                    · rfl
                                  refine hK.out _ _ ⟨((((below_alloc (Below.refl _ _) _)).cell (World.block_lt_of_cell? _ _ (hHeld.1))).trans (hHeld.1)), ((((below_alloc (Below.refl _ _) _)).cell (World.block_lt_of_cell? _ _ (hHeld.2.1))).trans (hHeld.2.1)), ((((below_alloc (Below.refl _ _) _)).cell (World.block_lt_of_cell? _ _ (hHeld.2.2.1))).trans (hHeld.2.2.1)), ((((below_alloc (Below.refl _ _) _)).cell (World.block_lt_of_cell? _ _ (hHeld.2.2.2.1))).trans (hHeld.2.2.2.1)), ((((below_alloc (Below.refl _ _) _)).cell (World.block_lt_of_cell? _ _ (hHeld.2.2.2.2.1))).trans (hHeld.2.2.2.2.1)), ((((below_alloc (Below.refl _ _) _)).cell (World.block_lt_of_cell? _ _ (hHeld.2.2.2.2.2.1))).trans (hHeld.2.2.2.2.2.1)), ((((below_alloc (Below.refl _ _) _)).cell (World.block_lt_of_cell? _ _ (hHeld.2.2.2.2.2.2))).trans (hHeld.2.2.2.2.2.2))⟩ (fun hHeld => ?_)
                                  clear hK K
                                  refine norm_ (a' := ?_) ?_ ?_
                                  rotate_left
                                  · show Act.put _ (some 24) _ = _
                                    simp only [Act.put, List.setIfInBounds_toArray, List.set_cons_zero, List.set_cons_succ, i64_w, i32_w]
                                    rfl
                                  exact norm_ (by first | (simp only [putAll, Act.put, List.setIfInBounds_toArray, List.set_cons_zero, List.set_cons_succ]; done) | (simp only [putAll, Act.put, List.setIfInBounds_toArray, List.set_cons_zero, List.set_cons_succ]; rfl)) (hJ17 (W.drew.heap.size) _ ⟨hHeld, ⟨HBe.out.trans ((below_alloc (Below.refl _ _) _).mono HBe.out.size)⟩, ⟨⟨blk_new _ _, HBe.out.size⟩⟩⟩)
                              · skip
                                rintro bm w17 ⟨hHeld, HBe, H17⟩
                                refine norm_ (a' := ?_) ?_ ?_
                                rotate_left
                                · simp only [putAll, Act.put, List.setIfInBounds_toArray, List.set_cons_zero, List.set_cons_succ]
                                  rfl
                                refine three_ (i := 5) (j := 11) (k := 16) (Ni := some 12) (Nj := some 18) (Nk := some 23) #[true, true, true, true, true, true, true, true, true, true, true, false, true, true, true, true, false, true, true, true, true, true, true, true, true, true, false, false, false] #[true, true, true, true, true, false, true, true, true, true, true, true, true, true, true, true, false, true, true, true, true, true, true, true, true, true, false, false, false] #[true, true, true, true, true, false, true, true, true, true, true, false, true, true, true, true, true, true, true, true, true, true, true, true, true, true, false, false, false] rfl rfl rfl rfl rfl rfl (by kernel_rfl) (by decide) (by decide) (by decide) (fun K hK => ?_) (fun K hK => ?_) (fun K hK => ?_)
                                · skip
                                  refine value_ (w1 := ?_) (v := ?_) (by rfl) rfl ?_ ?_
                                  rotate_left 2
                                  · go_simp
                                    constructor
                                    · rfl
                                    · rfl
                                  refine hK.out _ _ ⟨((((below_alloc (Below.refl _ _) _)).cell (World.block_lt_of_cell? _ _ (hHeld.1))).trans (hHeld.1)), ((((below_alloc (Below.refl _ _) _)).cell (World.block_lt_of_cell? _ _ (hHeld.2.1))).trans (hHeld.2.1)), ((((below_alloc (Below.refl _ _) _)).cell (World.block_lt_of_cell? _ _ (hHeld.2.2.1))).trans (hHeld.2.2.1)), ((((below_alloc (Below.refl _ _) _)).cell (World.block_lt_of_cell? _ _ (hHeld.2.2.2.1))).trans (hHeld.2.2.2.1)), ((((below_alloc (Below.refl _ _) _)).cell (World.block_lt_of_cell? _ _ (hHeld.2.2.2.2.1))).trans (hHeld.2.2.2.2.1)), ((((below_alloc (Below.refl _ _) _)).cell (World.block_lt_of_cell? _ _ (hHeld.2.2.2.2.2.1))).trans (hHeld.2.2.2.2.2.1)), ((((below_alloc (Below.refl _ _) _)).cell (World.block_lt_of_cell? _ _ (hHeld.2.2.2.2.2.2))).trans (hHeld.2.2.2.2.2.2))⟩ (fun hHeld => ?_)
                                  clear hK K
                                  refine norm_ (a' := ?_) ?_ ?_
                                  rotate_left
                                  · show Act.put _ (some 12) _ = _
                                    simp only [Act.put, List.setIfInBounds_toArray, List.set_cons_zero, List.set_cons_succ, i64_w, i32_w]
                                    rfl
                                  exact norm_ (by first | (simp only [putAll, Act.put, List.setIfInBounds_toArray, List.set_cons_zero, List.set_cons_succ]; done) | (simp only [putAll, Act.put, List.setIfInBounds_toArray, List.set_cons_zero, List.set_cons_succ]; rfl)) (hJ5_17 (w17.heap.size, bm) _ ⟨hHeld, ⟨HBe.out.trans ((below_alloc (Below.refl _ _) _).mono HBe.out.size)⟩, ⟨⟨blk_new _ _, HBe.out.size⟩⟩, ⟨⟨blk_below H17.out.1 (below_alloc (Below.refl _ _) _), H17.out.2⟩⟩⟩)
                                · skip
                                  refine value_ (w1 := ?_) (v := ?_) (by rfl) rfl ?_ ?_
                                  rotate_left 2
                                  · go_simp
                                    constructor
                                    · rfl
                                    · rfl
                                  refine hK.out _ _ ⟨((((below_alloc (Below.refl _ _) _)).cell (World.block_lt_of_cell? _ _ (hHeld.1))).trans (hHeld.1)), ((((below_alloc (Below.refl _ _) _)).cell (World.block_lt_of_cell? _ _ (hHeld.2.1))).trans (hHeld.2.1)), ((((below_alloc (Below.refl _ _) _)).cell (World.block_lt_of_cell? _ _ (hHeld.2.2.1))).trans (hHeld.2.2.1)), ((((below_alloc (Below.refl _ _) _)).cell (World.block_lt_of_cell? _ _ (hHeld.2.2.2.1))).trans (hHeld.2.2.2.1)), ((((below_alloc (Below.refl _ _) _)).cell (World.block_lt_of_cell? _ _ (hHeld.2.2.2.2.1))).trans (hHeld.2.2.2.2.1)), ((((below_alloc (Below.refl _ _) _)).cell (World.block_lt_of_cell? _ _ (hHeld.2.2.2.2.2.1))).trans (hHeld.2.2.2.2.2.1)), ((((below_alloc (Below.refl _ _) _)).cell (World.block_lt_of_cell? _ _ (hHeld.2.2.2.2.2.2))).trans (hHeld.2.2.2.2.2.2))⟩ (fun hHeld => ?_)
                                  clear hK K
                                  refine norm_ (a' := ?_) ?_ ?_
                                  rotate_left
                                  · show Act.put _ (some 18) _ = _
                                    simp only [Act.put, List.setIfInBounds_toArray, List.set_cons_zero, List.set_cons_succ, i64_w, i32_w]
                                    rfl
                                  exact norm_ (by first | (simp only [putAll, Act.put, List.setIfInBounds_toArray, List.set_cons_zero, List.set_cons_succ]; done) | (simp only [putAll, Act.put, List.setIfInBounds_toArray, List.set_cons_zero, List.set_cons_succ]; rfl)) (hJ11_17 (w17.heap.size, bm) _ ⟨hHeld, ⟨HBe.out.trans ((below_alloc (Below.refl _ _) _).mono HBe.out.size)⟩, ⟨⟨blk_new _ _, HBe.out.size⟩⟩, ⟨⟨blk_below H17.out.1 (below_alloc (Below.refl _ _) _), H17.out.2⟩⟩⟩)
                                · skip
                                  refine goes_ Try.func44 (by kernel_rfl) rfl #[.slice Ap np cp] (by rfl) rfl rfl (by simp only [List.map_toArray, List.map_cons, List.map_nil]; rfl) ?_
                                  with_reducible refine (HCL.out _ HBe.out).mono ?_
                                  rintro e w3 ⟨Aq, cq, rfl, hR, hb⟩
                                  refine ⟨_, rfl, ?_⟩
                                  refine hK.out _ _ ⟨(((hb).cell (World.block_lt_of_cell? _ _ (hHeld.1))).trans (hHeld.1)), (((hb).cell (World.block_lt_of_cell? _ _ (hHeld.2.1))).trans (hHeld.2.1)), (((hb).cell (World.block_lt_of_cell? _ _ (hHeld.2.2.1))).trans (hHeld.2.2.1)), (((hb).cell (World.block_lt_of_cell? _ _ (hHeld.2.2.2.1))).trans (hHeld.2.2.2.1)), (((hb).cell (World.block_lt_of_cell? _ _ (hHeld.2.2.2.2.1))).trans (hHeld.2.2.2.2.1)), (((hb).cell (World.block_lt_of_cell? _ _ (hHeld.2.2.2.2.2.1))).trans (hHeld.2.2.2.2.2.1)), (((hb).cell (World.block_lt_of_cell? _ _ (hHeld.2.2.2.2.2.2))).trans (hHeld.2.2.2.2.2.2))⟩ (fun hHeld => ?_)
                                  clear hK K
                                  refine norm_ (a' := ?_) ?_ ?_
                                  rotate_left
                                  · show Act.put _ (some 23) _ = _
                                    simp only [Act.put, List.setIfInBounds_toArray, List.set_cons_zero, List.set_cons_succ, i64_w, i32_w]
                                    rfl
                                  exact norm_ (by first | (simp only [putAll, Act.put, List.setIfInBounds_toArray, List.set_cons_zero, List.set_cons_succ]; done) | (simp only [putAll, Act.put, List.setIfInBounds_toArray, List.set_cons_zero, List.set_cons_succ]; rfl)) (hJ16_17 ((Aq, cq), bm) _ ⟨hHeld, ⟨HBe.out.trans (hb.mono HBe.out.size)⟩, ⟨hR⟩, ⟨⟨blk_below H17.out.1 hb, H17.out.2⟩⟩⟩)
                            · skip
                              rintro pq w16 ⟨hHeld, HBe, H16⟩
                              refine norm_ (a' := ?_) ?_ ?_
                              rotate_left
                              · simp only [putAll, Act.put, List.setIfInBounds_toArray, List.set_cons_zero, List.set_cons_succ]
                                rfl
                              refine three_ (i := 5) (j := 11) (k := 17) (Ni := some 12) (Nj := some 18) (Nk := some 24) #[true, true, true, true, true, true, true, true, true, true, true, false, true, true, true, true, true, false, true, true, true, true, true, true, true, true, false, false, false] #[true, true, true, true, true, false, true, true, true, true, true, true, true, true, true, true, true, false, true, true, true, true, true, true, true, true, false, false, false] #[true, true, true, true, true, false, true, true, true, true, true, false, true, true, true, true, true, true, true, true, true, true, true, true, true, true, false, false, false] rfl rfl rfl rfl rfl rfl (by kernel_rfl) (by decide) (by decide) (by decide) (fun K hK => ?_) (fun K hK => ?_) (fun K hK => ?_)
                              · skip
                                refine value_ (w1 := ?_) (v := ?_) (by rfl) rfl ?_ ?_
                                rotate_left 2
                                · go_simp
                                  constructor
                                  · rfl
                                  · rfl
                                refine hK.out _ _ ⟨((((below_alloc (Below.refl _ _) _)).cell (World.block_lt_of_cell? _ _ (hHeld.1))).trans (hHeld.1)), ((((below_alloc (Below.refl _ _) _)).cell (World.block_lt_of_cell? _ _ (hHeld.2.1))).trans (hHeld.2.1)), ((((below_alloc (Below.refl _ _) _)).cell (World.block_lt_of_cell? _ _ (hHeld.2.2.1))).trans (hHeld.2.2.1)), ((((below_alloc (Below.refl _ _) _)).cell (World.block_lt_of_cell? _ _ (hHeld.2.2.2.1))).trans (hHeld.2.2.2.1)), ((((below_alloc (Below.refl _ _) _)).cell (World.block_lt_of_cell? _ _ (hHeld.2.2.2.2.1))).trans (hHeld.2.2.2.2.1)), ((((below_alloc (Below.refl _ _) _)).cell (World.block_lt_of_cell? _ _ (hHeld.2.2.2.2.2.1))).trans (hHeld.2.2.2.2.2.1)), ((((below_alloc (Below.refl _ _) _)).cell (World.block_lt_of_cell? _ _ (hHeld.2.2.2.2.2.2))).trans (hHeld.2.2.2.2.2.2))⟩ (fun hHeld => ?_)
                                clear hK K
                                refine norm_ (a' := ?_) ?_ ?_
                                rotate_left
                                · show Act.put _ (some 12) _ = _
                                  simp only [Act.put, List.setIfInBounds_toArray, List.set_cons_zero, List.set_cons_succ, i64_w, i32_w]
                                  rfl
                                exact norm_ (by first | (simp only [putAll, Act.put, List.setIfInBounds_toArray, List.set_cons_zero, List.set_cons_succ]; done) | (simp only [putAll, Act.put, List.setIfInBounds_toArray, List.set_cons_zero, List.set_cons_succ]; rfl)) (hJ5_16 (w16.heap.size, pq) _ ⟨hHeld, ⟨HBe.out.trans ((below_alloc (Below.refl _ _) _).mono HBe.out.size)⟩, ⟨⟨blk_new _ _, HBe.out.size⟩⟩, ⟨Kd.R_below H16.out (below_alloc (Below.refl _ _) _)⟩⟩)
                              · skip
                                refine value_ (w1 := ?_) (v := ?_) (by rfl) rfl ?_ ?_
                                rotate_left 2
                                · go_simp
                                  constructor
                                  · rfl
                                  · rfl
                                refine hK.out _ _ ⟨((((below_alloc (Below.refl _ _) _)).cell (World.block_lt_of_cell? _ _ (hHeld.1))).trans (hHeld.1)), ((((below_alloc (Below.refl _ _) _)).cell (World.block_lt_of_cell? _ _ (hHeld.2.1))).trans (hHeld.2.1)), ((((below_alloc (Below.refl _ _) _)).cell (World.block_lt_of_cell? _ _ (hHeld.2.2.1))).trans (hHeld.2.2.1)), ((((below_alloc (Below.refl _ _) _)).cell (World.block_lt_of_cell? _ _ (hHeld.2.2.2.1))).trans (hHeld.2.2.2.1)), ((((below_alloc (Below.refl _ _) _)).cell (World.block_lt_of_cell? _ _ (hHeld.2.2.2.2.1))).trans (hHeld.2.2.2.2.1)), ((((below_alloc (Below.refl _ _) _)).cell (World.block_lt_of_cell? _ _ (hHeld.2.2.2.2.2.1))).trans (hHeld.2.2.2.2.2.1)), ((((below_alloc (Below.refl _ _) _)).cell (World.block_lt_of_cell? _ _ (hHeld.2.2.2.2.2.2))).trans (hHeld.2.2.2.2.2.2))⟩ (fun hHeld => ?_)
                                clear hK K
                                refine norm_ (a' := ?_) ?_ ?_
                                rotate_left
                                · show Act.put _ (some 18) _ = _
                                  simp only [Act.put, List.setIfInBounds_toArray, List.set_cons_zero, List.set_cons_succ, i64_w, i32_w]
                                  rfl
                                exact norm_ (by first | (simp only [putAll, Act.put, List.setIfInBounds_toArray, List.set_cons_zero, List.set_cons_succ]; done) | (simp only [putAll, Act.put, List.setIfInBounds_toArray, List.set_cons_zero, List.set_cons_succ]; rfl)) (hJ11_16 (w16.heap.size, pq) _ ⟨hHeld, ⟨HBe.out.trans ((below_alloc (Below.refl _ _) _).mono HBe.out.size)⟩, ⟨⟨blk_new _ _, HBe.out.size⟩⟩, ⟨Kd.R_below H16.out (below_alloc (Below.refl _ _) _)⟩⟩)
                              · skip
                                refine value_ (w1 := ?_) (v := ?_) (by rfl) rfl ?_ ?_
                                rotate_left 2
                                · go_simp
                                  constructor
                                  · rfl
                                  · rfl
                                refine hK.out _ _ ⟨((((below_alloc (Below.refl _ _) _)).cell (World.block_lt_of_cell? _ _ (hHeld.1))).trans (hHeld.1)), ((((below_alloc (Below.refl _ _) _)).cell (World.block_lt_of_cell? _ _ (hHeld.2.1))).trans (hHeld.2.1)), ((((below_alloc (Below.refl _ _) _)).cell (World.block_lt_of_cell? _ _ (hHeld.2.2.1))).trans (hHeld.2.2.1)), ((((below_alloc (Below.refl _ _) _)).cell (World.block_lt_of_cell? _ _ (hHeld.2.2.2.1))).trans (hHeld.2.2.2.1)), ((((below_alloc (Below.refl _ _) _)).cell (World.block_lt_of_cell? _ _ (hHeld.2.2.2.2.1))).trans (hHeld.2.2.2.2.1)), ((((below_alloc (Below.refl _ _) _)).cell (World.block_lt_of_cell? _ _ (hHeld.2.2.2.2.2.1))).trans (hHeld.2.2.2.2.2.1)), ((((below_alloc (Below.refl _ _) _)).cell (World.block_lt_of_cell? _ _ (hHeld.2.2.2.2.2.2))).trans (hHeld.2.2.2.2.2.2))⟩ (fun hHeld => ?_)
                                clear hK K
                                refine norm_ (a' := ?_) ?_ ?_
                                rotate_left
                                · show Act.put _ (some 24) _ = _
                                  simp only [Act.put, List.setIfInBounds_toArray, List.set_cons_zero, List.set_cons_succ, i64_w, i32_w]
                                  rfl
                                exact norm_ (by first | (simp only [putAll, Act.put, List.setIfInBounds_toArray, List.set_cons_zero, List.set_cons_succ]; done) | (simp only [putAll, Act.put, List.setIfInBounds_toArray, List.set_cons_zero, List.set_cons_succ]; rfl)) (hJ16_17 (pq, w16.heap.size) _ ⟨hHeld, ⟨HBe.out.trans ((below_alloc (Below.refl _ _) _).mono HBe.out.size)⟩, ⟨Kd.R_below H16.out (below_alloc (Below.refl _ _) _)⟩, ⟨⟨blk_new _ _, HBe.out.size⟩⟩⟩)
                          · skip
                            rintro ob w11 ⟨hHeld, HBe, H11⟩
                            refine norm_ (a' := ?_) ?_ ?_
                            rotate_left
                            · simp only [putAll, Act.put, List.setIfInBounds_toArray, List.set_cons_zero, List.set_cons_succ]
                              rfl
                            refine three_ (i := 5) (j := 16) (k := 17) (Ni := some 12) (Nj := some 23) (Nk := some 24) #[true, true, true, true, true, true, true, true, true, true, true, true, true, true, true, true, false, false, true, true, true, true, true, true, true, true, false, false, false] #[true, true, true, true, true, false, true, true, true, true, true, true, true, true, true, true, true, false, true, true, true, true, true, true, true, true, false, false, false] #[true, true, true, true, true, false, true, true, true, true, true, true, true, true, true, true, false, true, true, true, true, true, true, true, true, true, false, false, false] rfl rfl rfl rfl rfl rfl (by kernel_rfl) (by decide) (by decide) (by decide) (fun K hK => ?_) (fun K hK => ?_) (fun K hK => ?_)
                            · skip
                              refine value_ (w1 := ?_) (v := ?_) (by rfl) rfl ?_ ?_
                              rotate_left 2
                              · go_simp
                                constructor
                                · rfl
                                · rfl
                              refine hK.out _ _ ⟨((((below_alloc (Below.refl _ _) _)).cell (World.block_lt_of_cell? _ _ (hHeld.1))).trans (hHeld.1)), ((((below_alloc (Below.refl _ _) _)).cell (World.block_lt_of_cell? _ _ (hHeld.2.1))).trans (hHeld.2.1)), ((((below_alloc (Below.refl _ _) _)).cell (World.block_lt_of_cell? _ _ (hHeld.2.2.1))).trans (hHeld.2.2.1)), ((((below_alloc (Below.refl _ _) _)).cell (World.block_lt_of_cell? _ _ (hHeld.2.2.2.1))).trans (hHeld.2.2.2.1)), ((((below_alloc (Below.refl _ _) _)).cell (World.block_lt_of_cell? _ _ (hHeld.2.2.2.2.1))).trans (hHeld.2.2.2.2.1)), ((((below_alloc (Below.refl _ _) _)).cell (World.block_lt_of_cell? _ _ (hHeld.2.2.2.2.2.1))).trans (hHeld.2.2.2.2.2.1)), ((((below_alloc (Below.refl _ _) _)).cell (World.block_lt_of_cell? _ _ (hHeld.2.2.2.2.2.2))).trans (hHeld.2.2.2.2.2.2))⟩ (fun hHeld => ?_)
                              clear hK K
                              refine norm_ (a' := ?_) ?_ ?_
                              rotate_left
                              · show Act.put _ (some 12) _ = _
                                simp only [Act.put, List.setIfInBounds_toArray, List.set_cons_zero, List.set_cons_succ, i64_w, i32_w]
                                rfl
                              exact norm_ (by first | (simp only [putAll, Act.put, List.setIfInBounds_toArray, List.set_cons_zero, List.set_cons_succ]; done) | (simp only [putAll, Act.put, List.setIfInBounds_toArray, List.set_cons_zero, List.set_cons_succ]; rfl)) (hJ5_11 (w11.heap.size, ob) _ ⟨hHeld, ⟨HBe.out.trans ((below_alloc (Below.refl _ _) _).mono HBe.out.size)⟩, ⟨⟨blk_new _ _, HBe.out.size⟩⟩, ⟨⟨blk_below H11.out.1 (below_alloc (Below.refl _ _) _), H11.out.2⟩⟩⟩)
                            · skip
                              refine goes_ Try.func44 (by kernel_rfl) rfl #[.slice Ap np cp] (by rfl) rfl rfl (by simp only [List.map_toArray, List.map_cons, List.map_nil]; rfl) ?_
                              with_reducible refine (HCL.out _ HBe.out).mono ?_
                              rintro e w3 ⟨Aq, cq, rfl, hR, hb⟩
                              refine ⟨_, rfl, ?_⟩
                              refine hK.out _ _ ⟨(((hb).cell (World.block_lt_of_cell? _ _ (hHeld.1))).trans (hHeld.1)), (((hb).cell (World.block_lt_of_cell? _ _ (hHeld.2.1))).trans (hHeld.2.1)), (((hb).cell (World.block_lt_of_cell? _ _ (hHeld.2.2.1))).trans (hHeld.2.2.1)), (((hb).cell (World.block_lt_of_cell? _ _ (hHeld.2.2.2.1))).trans (hHeld.2.2.2.1)), (((hb).cell (World.block_lt_of_cell? _ _ (hHeld.2.2.2.2.1))).trans (hHeld.2.2.2.2.1)), (((hb).cell (World.block_lt_of_cell? _ _ (hHeld.2.2.2.2.2.1))).trans (hHeld.2.2.2.2.2.1)), (((hb).cell (World.block_lt_of_cell? _ _ (hHeld.2.2.2.2.2.2))).trans (hHeld.2.2.2.2.2.2))⟩ (fun hHeld => ?_)
                              clear hK K
                              refine norm_ (a' := ?_) ?_ ?_
                              rotate_left
                              · show Act.put _ (some 23) _ = _
                                simp only [Act.put, List.setIfInBounds_toArray, List.set_cons_zero, List.set_cons_succ, i64_w, i32_w]
                                rfl
                              exact norm_ (by first | (simp only [putAll, Act.put, List.setIfInBounds_toArray, List.set_cons_zero, List.set_cons_succ]; done) | (simp only [putAll, Act.put, List.setIfInBounds_toArray, List.set_cons_zero, List.set_cons_succ]; rfl)) (hJ11_16 (ob, (Aq, cq)) _ ⟨hHeld, ⟨HBe.out.trans (hb.mono HBe.out.size)⟩, ⟨⟨blk_below H11.out.1 hb, H11.out.2⟩⟩, ⟨hR⟩⟩)
                            · skip
                              refine value_ (w1 := ?_) (v := ?_) (by rfl) rfl ?_ ?_
                              rotate_left 2
                              · go_simp
                                constructor
                                · rfl
                                · rfl
                              refine hK.out _ _ ⟨((((below_alloc (Below.refl _ _) _)).cell (World.block_lt_of_cell? _ _ (hHeld.1))).trans (hHeld.1)), ((((below_alloc (Below.refl _ _) _)).cell (World.block_lt_of_cell? _ _ (hHeld.2.1))).trans (hHeld.2.1)), ((((below_alloc (Below.refl _ _) _)).cell (World.block_lt_of_cell? _ _ (hHeld.2.2.1))).trans (hHeld.2.2.1)), ((((below_alloc (Below.refl _ _) _)).cell (World.block_lt_of_cell? _ _ (hHeld.2.2.2.1))).trans (hHeld.2.2.2.1)), ((((below_alloc (Below.refl _ _) _)).cell (World.block_lt_of_cell? _ _ (hHeld.2.2.2.2.1))).trans (hHeld.2.2.2.2.1)), ((((below_alloc (Below.refl _ _) _)).cell (World.block_lt_of_cell? _ _ (hHeld.2.2.2.2.2.1))).trans (hHeld.2.2.2.2.2.1)), ((((below_alloc (Below.refl _ _) _)).cell (World.block_lt_of_cell? _ _ (hHeld.2.2.2.2.2.2))).trans (hHeld.2.2.2.2.2.2))⟩ (fun hHeld => ?_)
                              clear hK K
                              refine norm_ (a' := ?_) ?_ ?_
                              rotate_left
                              · show Act.put _ (some 24) _ = _
                                simp only [Act.put, List.setIfInBounds_toArray, List.set_cons_zero, List.set_cons_succ, i64_w, i32_w]
                                rfl
                              exact norm_ (by first | (simp only [putAll, Act.put, List.setIfInBounds_toArray, List.set_cons_zero, List.set_cons_succ]; done) | (simp only [putAll, Act.put, List.setIfInBounds_toArray, List.set_cons_zero, List.set_cons_succ]; rfl)) (hJ11_17 (ob, w11.heap.size) _ ⟨hHeld, ⟨HBe.out.trans ((below_alloc (Below.refl _ _) _).mono HBe.out.size)⟩, ⟨⟨blk_below H11.out.1 (below_alloc (Below.refl _ _) _), H11.out.2⟩⟩, ⟨⟨blk_new _ _, HBe.out.size⟩⟩⟩)
                        · skip
                          rintro sb w5 ⟨hHeld, HBe, H5⟩
                          refine norm_ (a' := ?_) ?_ ?_
                          rotate_left
                          · simp only [putAll, Act.put, List.setIfInBounds_toArray, List.set_cons_zero, List.set_cons_succ]
                            rfl
                          refine three_ (i := 11) (j := 16) (k := 17) (Ni := some 18) (Nj := some 23) (Nk := some 24) #[true, true, true, true, true, true, true, true, true, true, true, true, true, true, true, true, false, false, true, true, true, true, true, true, true, true, false, false, false] #[true, true, true, true, true, true, true, true, true, true, true, false, true, true, true, true, true, false, true, true, true, true, true, true, true, true, false, false, false] #[true, true, true, true, true, true, true, true, true, true, true, false, true, true, true, true, false, true, true, true, true, true, true, true, true, true, false, false, false] rfl rfl rfl rfl rfl rfl (by kernel_rfl) (by decide) (by decide) (by decide) (fun K hK => ?_) (fun K hK => ?_) (fun K hK => ?_)
                          · skip
                            refine value_ (w1 := ?_) (v := ?_) (by rfl) rfl ?_ ?_
                            rotate_left 2
                            · go_simp
                              constructor
                              · rfl
                              · rfl
                            refine hK.out _ _ ⟨((((below_alloc (Below.refl _ _) _)).cell (World.block_lt_of_cell? _ _ (hHeld.1))).trans (hHeld.1)), ((((below_alloc (Below.refl _ _) _)).cell (World.block_lt_of_cell? _ _ (hHeld.2.1))).trans (hHeld.2.1)), ((((below_alloc (Below.refl _ _) _)).cell (World.block_lt_of_cell? _ _ (hHeld.2.2.1))).trans (hHeld.2.2.1)), ((((below_alloc (Below.refl _ _) _)).cell (World.block_lt_of_cell? _ _ (hHeld.2.2.2.1))).trans (hHeld.2.2.2.1)), ((((below_alloc (Below.refl _ _) _)).cell (World.block_lt_of_cell? _ _ (hHeld.2.2.2.2.1))).trans (hHeld.2.2.2.2.1)), ((((below_alloc (Below.refl _ _) _)).cell (World.block_lt_of_cell? _ _ (hHeld.2.2.2.2.2.1))).trans (hHeld.2.2.2.2.2.1)), ((((below_alloc (Below.refl _ _) _)).cell (World.block_lt_of_cell? _ _ (hHeld.2.2.2.2.2.2))).trans (hHeld.2.2.2.2.2.2))⟩ (fun hHeld => ?_)
                            clear hK K
                            refine norm_ (a' := ?_) ?_ ?_
                            rotate_left
                            · show Act.put _ (some 18) _ = _
                              simp only [Act.put, List.setIfInBounds_toArray, List.set_cons_zero, List.set_cons_succ, i64_w, i32_w]
                              rfl
                            exact norm_ (by first | (simp only [putAll, Act.put, List.setIfInBounds_toArray, List.set_cons_zero, List.set_cons_succ]; done) | (simp only [putAll, Act.put, List.setIfInBounds_toArray, List.set_cons_zero, List.set_cons_succ]; rfl)) (hJ5_11 (sb, w5.heap.size) _ ⟨hHeld, ⟨HBe.out.trans ((below_alloc (Below.refl _ _) _).mono HBe.out.size)⟩, ⟨⟨blk_below H5.out.1 (below_alloc (Below.refl _ _) _), H5.out.2⟩⟩, ⟨⟨blk_new _ _, HBe.out.size⟩⟩⟩)
                          · skip
                            refine goes_ Try.func44 (by kernel_rfl) rfl #[.slice Ap np cp] (by rfl) rfl rfl (by simp only [List.map_toArray, List.map_cons, List.map_nil]; rfl) ?_
                            with_reducible refine (HCL.out _ HBe.out).mono ?_
                            rintro e w3 ⟨Aq, cq, rfl, hR, hb⟩
                            refine ⟨_, rfl, ?_⟩
                            refine hK.out _ _ ⟨(((hb).cell (World.block_lt_of_cell? _ _ (hHeld.1))).trans (hHeld.1)), (((hb).cell (World.block_lt_of_cell? _ _ (hHeld.2.1))).trans (hHeld.2.1)), (((hb).cell (World.block_lt_of_cell? _ _ (hHeld.2.2.1))).trans (hHeld.2.2.1)), (((hb).cell (World.block_lt_of_cell? _ _ (hHeld.2.2.2.1))).trans (hHeld.2.2.2.1)), (((hb).cell (World.block_lt_of_cell? _ _ (hHeld.2.2.2.2.1))).trans (hHeld.2.2.2.2.1)), (((hb).cell (World.block_lt_of_cell? _ _ (hHeld.2.2.2.2.2.1))).trans (hHeld.2.2.2.2.2.1)), (((hb).cell (World.block_lt_of_cell? _ _ (hHeld.2.2.2.2.2.2))).trans (hHeld.2.2.2.2.2.2))⟩ (fun hHeld => ?_)
                            clear hK K
                            refine norm_ (a' := ?_) ?_ ?_
                            rotate_left
                            · show Act.put _ (some 23) _ = _
                              simp only [Act.put, List.setIfInBounds_toArray, List.set_cons_zero, List.set_cons_succ, i64_w, i32_w]
                              rfl
                            exact norm_ (by first | (simp only [putAll, Act.put, List.setIfInBounds_toArray, List.set_cons_zero, List.set_cons_succ]; done) | (simp only [putAll, Act.put, List.setIfInBounds_toArray, List.set_cons_zero, List.set_cons_succ]; rfl)) (hJ5_16 (sb, (Aq, cq)) _ ⟨hHeld, ⟨HBe.out.trans (hb.mono HBe.out.size)⟩, ⟨⟨blk_below H5.out.1 hb, H5.out.2⟩⟩, ⟨hR⟩⟩)
                          · skip
                            refine value_ (w1 := ?_) (v := ?_) (by rfl) rfl ?_ ?_
                            rotate_left 2
                            · go_simp
                              constructor
                              · rfl
                              · rfl
                            refine hK.out _ _ ⟨((((below_alloc (Below.refl _ _) _)).cell (World.block_lt_of_cell? _ _ (hHeld.1))).trans (hHeld.1)), ((((below_alloc (Below.refl _ _) _)).cell (World.block_lt_of_cell? _ _ (hHeld.2.1))).trans (hHeld.2.1)), ((((below_alloc (Below.refl _ _) _)).cell (World.block_lt_of_cell? _ _ (hHeld.2.2.1))).trans (hHeld.2.2.1)), ((((below_alloc (Below.refl _ _) _)).cell (World.block_lt_of_cell? _ _ (hHeld.2.2.2.1))).trans (hHeld.2.2.2.1)), ((((below_alloc (Below.refl _ _) _)).cell (World.block_lt_of_cell? _ _ (hHeld.2.2.2.2.1))).trans (hHeld.2.2.2.2.1)), ((((below_alloc (Below.refl _ _) _)).cell (World.block_lt_of_cell? _ _ (hHeld.2.2.2.2.2.1))).trans (hHeld.2.2.2.2.2.1)), ((((below_alloc (Below.refl _ _) _)).cell (World.block_lt_of_cell? _ _ (hHeld.2.2.2.2.2.2))).trans (hHeld.2.2.2.2.2.2))⟩ (fun hHeld => ?_)
                            clear hK K
                            refine norm_ (a' := ?_) ?_ ?_
                            rotate_left
                            · show Act.put _ (some 24) _ = _
                              simp only [Act.put, List.setIfInBounds_toArray, List.set_cons_zero, List.set_cons_succ, i64_w, i32_w]
                              rfl
                            exact norm_ (by first | (simp only [putAll, Act.put, List.setIfInBounds_toArray, List.set_cons_zero, List.set_cons_succ]; done) | (simp only [putAll, Act.put, List.setIfInBounds_toArray, List.set_cons_zero, List.set_cons_succ]; rfl)) (hJ5_17 (sb, w5.heap.size) _ ⟨hHeld, ⟨HBe.out.trans ((below_alloc (Below.refl _ _) _).mono HBe.out.size)⟩, ⟨⟨blk_below H5.out.1 (below_alloc (Below.refl _ _) _), H5.out.2⟩⟩, ⟨⟨blk_new _ _, HBe.out.size⟩⟩⟩)
                      · skip
                        rintro ⟨pq, bm⟩ w16_17 ⟨hHeld, HBe, H16, H17⟩
                        refine norm_ (a' := ?_) ?_ ?_
                        rotate_left
                        · simp only [putAll, Act.put, List.setIfInBounds_toArray, List.set_cons_zero, List.set_cons_succ]
                          rfl
                        refine two_ (i := 5) (j := 11) (Ni := some 12) (Nj := some 18) #[true, true, true, true, true, true, true, true, true, true, true, false, true, true, true, true, true, true, true, true, true, true, true, true, true, true, false, false, false] #[true, true, true, true, true, false, true, true, true, true, true, true, true, true, true, true, true, true, true, true, true, true, true, true, true, true, false, false, false] rfl rfl rfl rfl (by kernel_rfl) (by decide) (by decide) (fun K hK => ?_) (fun K hK => ?_)
                        · skip
                          refine value_ (w1 := ?_) (v := ?_) (by rfl) rfl ?_ ?_
                          rotate_left 2
                          · go_simp
                            constructor
                            · rfl
                            · rfl
                          refine hK.out _ _ ⟨((((below_alloc (Below.refl _ _) _)).cell (World.block_lt_of_cell? _ _ (hHeld.1))).trans (hHeld.1)), ((((below_alloc (Below.refl _ _) _)).cell (World.block_lt_of_cell? _ _ (hHeld.2.1))).trans (hHeld.2.1)), ((((below_alloc (Below.refl _ _) _)).cell (World.block_lt_of_cell? _ _ (hHeld.2.2.1))).trans (hHeld.2.2.1)), ((((below_alloc (Below.refl _ _) _)).cell (World.block_lt_of_cell? _ _ (hHeld.2.2.2.1))).trans (hHeld.2.2.2.1)), ((((below_alloc (Below.refl _ _) _)).cell (World.block_lt_of_cell? _ _ (hHeld.2.2.2.2.1))).trans (hHeld.2.2.2.2.1)), ((((below_alloc (Below.refl _ _) _)).cell (World.block_lt_of_cell? _ _ (hHeld.2.2.2.2.2.1))).trans (hHeld.2.2.2.2.2.1)), ((((below_alloc (Below.refl _ _) _)).cell (World.block_lt_of_cell? _ _ (hHeld.2.2.2.2.2.2))).trans (hHeld.2.2.2.2.2.2))⟩ (fun hHeld => ?_)
                          clear hK K
                          refine norm_ (a' := ?_) ?_ ?_
                          rotate_left
                          · show Act.put _ (some 12) _ = _
                            simp only [Act.put, List.setIfInBounds_toArray, List.set_cons_zero, List.set_cons_succ, i64_w, i32_w]
                            rfl
                          exact norm_ (by first | (simp only [putAll, Act.put, List.setIfInBounds_toArray, List.set_cons_zero, List.set_cons_succ]; done) | (simp only [putAll, Act.put, List.setIfInBounds_toArray, List.set_cons_zero, List.set_cons_succ]; rfl)) (hJ5_16_17 (w16_17.heap.size, pq, bm) _ ⟨hHeld, ⟨HBe.out.trans ((below_alloc (Below.refl _ _) _).mono HBe.out.size)⟩, ⟨⟨blk_new _ _, HBe.out.size⟩⟩, ⟨Kd.R_below H16.out (below_alloc (Below.refl _ _) _)⟩, ⟨⟨blk_below H17.out.1 (below_alloc (Below.refl _ _) _), H17.out.2⟩⟩⟩)
                        · skip
                          refine value_ (w1 := ?_) (v := ?_) (by rfl) rfl ?_ ?_
                          rotate_left 2
                          · go_simp
                            constructor
                            · rfl
                            · rfl
                          refine hK.out _ _ ⟨((((below_alloc (Below.refl _ _) _)).cell (World.block_lt_of_cell? _ _ (hHeld.1))).trans (hHeld.1)), ((((below_alloc (Below.refl _ _) _)).cell (World.block_lt_of_cell? _ _ (hHeld.2.1))).trans (hHeld.2.1)), ((((below_alloc (Below.refl _ _) _)).cell (World.block_lt_of_cell? _ _ (hHeld.2.2.1))).trans (hHeld.2.2.1)), ((((below_alloc (Below.refl _ _) _)).cell (World.block_lt_of_cell? _ _ (hHeld.2.2.2.1))).trans (hHeld.2.2.2.1)), ((((below_alloc (Below.refl _ _) _)).cell (World.block_lt_of_cell? _ _ (hHeld.2.2.2.2.1))).trans (hHeld.2.2.2.2.1)), ((((below_alloc (Below.refl _ _) _)).cell (World.block_lt_of_cell? _ _ (hHeld.2.2.2.2.2.1))).trans (hHeld.2.2.2.2.2.1)), ((((below_alloc (Below.refl _ _) _)).cell (World.block_lt_of_cell? _ _ (hHeld.2.2.2.2.2.2))).trans (hHeld.2.2.2.2.2.2))⟩ (fun hHeld => ?_)
                          clear hK K
                          refine norm_ (a' := ?_) ?_ ?_
                          rotate_left
                          · show Act.put _ (some 18) _ = _
                            simp only [Act.put, List.setIfInBounds_toArray, List.set_cons_zero, List.set_cons_succ, i64_w, i32_w]
                            rfl
                          exact norm_ (by first | (simp only [putAll, Act.put, List.setIfInBounds_toArray, List.set_cons_zero, List.set_cons_succ]; done) | (simp only [putAll, Act.put, List.setIfInBounds_toArray, List.set_cons_zero, List.set_cons_succ]; rfl)) (hJ11_16_17 (w16_17.heap.size, pq, bm) _ ⟨hHeld, ⟨HBe.out.trans ((below_alloc (Below.refl _ _) _).mono HBe.out.size)⟩, ⟨⟨blk_new _ _, HBe.out.size⟩⟩, ⟨Kd.R_below H16.out (below_alloc (Below.refl _ _) _)⟩, ⟨⟨blk_below H17.out.1 (below_alloc (Below.refl _ _) _), H17.out.2⟩⟩⟩)
                    · skip
                      rintro ⟨ob, bm⟩ w11_17 ⟨hHeld, HBe, H11, H17⟩
                      refine norm_ (a' := ?_) ?_ ?_
                      rotate_left
                      · simp only [putAll, Act.put, List.setIfInBounds_toArray, List.set_cons_zero, List.set_cons_succ]
                        rfl
                      refine two_ (i := 5) (j := 16) (Ni := some 12) (Nj := some 23) #[true, true, true, true, true, true, true, true, true, true, true, true, true, true, true, true, false, true, true, true, true, true, true, true, true, true, false, false, false] #[true, true, true, true, true, false, true, true, true, true, true, true, true, true, true, true, true, true, true, true, true, true, true, true, true, true, false, false, false] rfl rfl rfl rfl (by kernel_rfl) (by decide) (by decide) (fun K hK => ?_) (fun K hK => ?_)
                      · skip
                        refine value_ (w1 := ?_) (v := ?_) (by rfl) rfl ?_ ?_
                        rotate_left 2
                        · go_simp
                          constructor
                          · rfl
                          · rfl
                        refine hK.out _ _ ⟨((((below_alloc (Below.refl _ _) _)).cell (World.block_lt_of_cell? _ _ (hHeld.1))).trans (hHeld.1)), ((((below_alloc (Below.refl _ _) _)).cell (World.block_lt_of_cell? _ _ (hHeld.2.1))).trans (hHeld.2.1)), ((((below_alloc (Below.refl _ _) _)).cell (World.block_lt_of_cell? _ _ (hHeld.2.2.1))).trans (hHeld.2.2.1)), ((((below_alloc (Below.refl _ _) _)).cell (World.block_lt_of_cell? _ _ (hHeld.2.2.2.1))).trans (hHeld.2.2.2.1)), ((((below_alloc (Below.refl _ _) _)).cell (World.block_lt_of_cell? _ _ (hHeld.2.2.2.2.1))).trans (hHeld.2.2.2.2.1)), ((((below_alloc (Below.refl _ _) _)).cell (World.block_lt_of_cell? _ _ (hHeld.2.2.2.2.2.1))).trans (hHeld.2.2.2.2.2.1)), ((((below_alloc (Below.refl _ _) _)).cell (World.block_lt_of_cell? _ _ (hHeld.2.2.2.2.2.2))).trans (hHeld.2.2.2.2.2.2))⟩ (fun hHeld => ?_)
                        clear hK K
                        refine norm_ (a' := ?_) ?_ ?_
                        rotate_left
                        · show Act.put _ (some 12) _ = _
                          simp only [Act.put, List.setIfInBounds_toArray, List.set_cons_zero, List.set_cons_succ, i64_w, i32_w]
                          rfl
                        exact norm_ (by first | (simp only [putAll, Act.put, List.setIfInBounds_toArray, List.set_cons_zero, List.set_cons_succ]; done) | (simp only [putAll, Act.put, List.setIfInBounds_toArray, List.set_cons_zero, List.set_cons_succ]; rfl)) (hJ5_11_17 (w11_17.heap.size, ob, bm) _ ⟨hHeld, ⟨HBe.out.trans ((below_alloc (Below.refl _ _) _).mono HBe.out.size)⟩, ⟨⟨blk_new _ _, HBe.out.size⟩⟩, ⟨⟨blk_below H11.out.1 (below_alloc (Below.refl _ _) _), H11.out.2⟩⟩, ⟨⟨blk_below H17.out.1 (below_alloc (Below.refl _ _) _), H17.out.2⟩⟩⟩)
                      · skip
                        refine goes_ Try.func44 (by kernel_rfl) rfl #[.slice Ap np cp] (by rfl) rfl rfl (by simp only [List.map_toArray, List.map_cons, List.map_nil]; rfl) ?_
                        with_reducible refine (HCL.out _ HBe.out).mono ?_
                        rintro e w3 ⟨Aq, cq, rfl, hR, hb⟩
                        refine ⟨_, rfl, ?_⟩
                        refine hK.out _ _ ⟨(((hb).cell (World.block_lt_of_cell? _ _ (hHeld.1))).trans (hHeld.1)), (((hb).cell (World.block_lt_of_cell? _ _ (hHeld.2.1))).trans (hHeld.2.1)), (((hb).cell (World.block_lt_of_cell? _ _ (hHeld.2.2.1))).trans (hHeld.2.2.1)), (((hb).cell (World.block_lt_of_cell? _ _ (hHeld.2.2.2.1))).trans (hHeld.2.2.2.1)), (((hb).cell (World.block_lt_of_cell? _ _ (hHeld.2.2.2.2.1))).trans (hHeld.2.2.2.2.1)), (((hb).cell (World.block_lt_of_cell? _ _ (hHeld.2.2.2.2.2.1))).trans (hHeld.2.2.2.2.2.1)), (((hb).cell (World.block_lt_of_cell? _ _ (hHeld.2.2.2.2.2.2))).trans (hHeld.2.2.2.2.2.2))⟩ (fun hHeld => ?_)
                        clear hK K
                        refine norm_ (a' := ?_) ?_ ?_
                        rotate_left
                        · show Act.put _ (some 23) _ = _
                          simp only [Act.put, List.setIfInBounds_toArray, List.set_cons_zero, List.set_cons_succ, i64_w, i32_w]
                          rfl
                        exact norm_ (by first | (simp only [putAll, Act.put, List.setIfInBounds_toArray, List.set_cons_zero, List.set_cons_succ]; done) | (simp only [putAll, Act.put, List.setIfInBounds_toArray, List.set_cons_zero, List.set_cons_succ]; rfl)) (hJ11_16_17 (ob, (Aq, cq), bm) _ ⟨hHeld, ⟨HBe.out.trans (hb.mono HBe.out.size)⟩, ⟨⟨blk_below H11.out.1 hb, H11.out.2⟩⟩, ⟨hR⟩, ⟨⟨blk_below H17.out.1 hb, H17.out.2⟩⟩⟩)
                  · skip
                    rintro ⟨ob, pq⟩ w11_16 ⟨hHeld, HBe, H11, H16⟩
                    refine norm_ (a' := ?_) ?_ ?_
                    rotate_left
                    · simp only [putAll, Act.put, List.setIfInBounds_toArray, List.set_cons_zero, List.set_cons_succ]
                      rfl
                    refine two_ (i := 5) (j := 17) (Ni := some 12) (Nj := some 24) #[true, true, true, true, true, true, true, true, true, true, true, true, true, true, true, true, true, false, true, true, true, true, true, true, true, true, false, false, false] #[true, true, true, true, true, false, true, true, true, true, true, true, true, true, true, true, true, true, true, true, true, true, true, true, true, true, false, false, false] rfl rfl rfl rfl (by kernel_rfl) (by decide) (by decide) (fun K hK => ?_) (fun K hK => ?_)
                    · skip
                      refine value_ (w1 := ?_) (v := ?_) (by rfl) rfl ?_ ?_
                      rotate_left 2
                      · go_simp
                        constructor
                        · rfl
                        · rfl
                      refine hK.out _ _ ⟨((((below_alloc (Below.refl _ _) _)).cell (World.block_lt_of_cell? _ _ (hHeld.1))).trans (hHeld.1)), ((((below_alloc (Below.refl _ _) _)).cell (World.block_lt_of_cell? _ _ (hHeld.2.1))).trans (hHeld.2.1)), ((((below_alloc (Below.refl _ _) _)).cell (World.block_lt_of_cell? _ _ (hHeld.2.2.1))).trans (hHeld.2.2.1)), ((((below_alloc (Below.refl _ _) _)).cell (World.block_lt_of_cell? _ _ (hHeld.2.2.2.1))).trans (hHeld.2.2.2.1)), ((((below_alloc (Below.refl _ _) _)).cell (World.block_lt_of_cell? _ _ (hHeld.2.2.2.2.1))).trans (hHeld.2.2.2.2.1)), ((((below_alloc (Below.refl _ _) _)).cell (World.block_lt_of_cell? _ _ (hHeld.2.2.2.2.2.1))).trans (hHeld.2.2.2.2.2.1)), ((((below_alloc (Below.refl _ _) _)).cell (World.block_lt_of_cell? _ _ (hHeld.2.2.2.2.2.2))).trans (hHeld.2.2.2.2.2.2))⟩ (fun hHeld => ?_)
                      clear hK K
                      refine norm_ (a' := ?_) ?_ ?_
                      rotate_left
                      · show Act.put _ (some 12) _ = _
                        simp only [Act.put, List.setIfInBounds_toArray, List.set_cons_zero, List.set_cons_succ, i64_w, i32_w]
                        rfl
                      exact norm_ (by first | (simp only [putAll, Act.put, List.setIfInBounds_toArray, List.set_cons_zero, List.set_cons_succ]; done) | (simp only [putAll, Act.put, List.setIfInBounds_toArray, List.set_cons_zero, List.set_cons_succ]; rfl)) (hJ5_11_16 (w11_16.heap.size, ob, pq) _ ⟨hHeld, ⟨HBe.out.trans ((below_alloc (Below.refl _ _) _).mono HBe.out.size)⟩, ⟨⟨blk_new _ _, HBe.out.size⟩⟩, ⟨⟨blk_below H11.out.1 (below_alloc (Below.refl _ _) _), H11.out.2⟩⟩, ⟨Kd.R_below H16.out (below_alloc (Below.refl _ _) _)⟩⟩)
                    · skip
                      refine value_ (w1 := ?_) (v := ?_) (by rfl) rfl ?_ ?_
                      rotate_left 2
                      · go_simp
                        constructor
                        · rfl
                        · rfl
                      refine hK.out _ _ ⟨((((below_alloc (Below.refl _ _) _)).cell (World.block_lt_of_cell? _ _ (hHeld.1))).trans (hHeld.1)), ((((below_alloc (Below.refl _ _) _)).cell (World.block_lt_of_cell? _ _ (hHeld.2.1))).trans (hHeld.2.1)), ((((below_alloc (Below.refl _ _) _)).cell (World.block_lt_of_cell? _ _ (hHeld.2.2.1))).trans (hHeld.2.2.1)), ((((below_alloc (Below.refl _ _) _)).cell (World.block_lt_of_cell? _ _ (hHeld.2.2.2.1))).trans (hHeld.2.2.2.1)), ((((below_alloc (Below.refl _ _) _)).cell (World.block_lt_of_cell? _ _ (hHeld.2.2.2.2.1))).trans (hHeld.2.2.2.2.1)), ((((below_alloc (Below.refl _ _) _)).cell (World.block_lt_of_cell? _ _ (hHeld.2.2.2.2.2.1))).trans (hHeld.2.2.2.2.2.1)), ((((below_alloc (Below.refl _ _) _)).cell (World.block_lt_of_cell? _ _ (hHeld.2.2.2.2.2.2))).trans (hHeld.2.2.2.2.2.2))⟩ (fun hHeld => ?_)
                      clear hK K
                      refine norm_ (a' := ?_) ?_ ?_
                      rotate_left
                      · show Act.put _ (some 24) _ = _
                        simp only [Act.put, List.setIfInBounds_toArray, List.set_cons_zero, List.set_cons_succ, i64_w, i32_w]
                        rfl
                      exact norm_ (by first | (simp only [putAll, Act.put, List.setIfInBounds_toArray, List.set_cons_zero, List.set_cons_succ]; done) | (simp only [putAll, Act.put, List.setIfInBounds_toArray, List.set_cons_zero, List.set_cons_succ]; rfl)) (hJ11_16_17 (ob, pq, w11_16.heap.size) _ ⟨hHeld, ⟨HBe.out.trans ((below_alloc (Below.refl _ _) _).mono HBe.out.size)⟩, ⟨⟨blk_below H11.out.1 (below_alloc (Below.refl _ _) _), H11.out.2⟩⟩, ⟨Kd.R_below H16.out (below_alloc (Below.refl _ _) _)⟩, ⟨⟨blk_new _ _, HBe.out.size⟩⟩⟩)
                · skip
                  rintro ⟨sb, bm⟩ w5_17 ⟨hHeld, HBe, H5, H17⟩
                  refine norm_ (a' := ?_) ?_ ?_
                  rotate_left
                  · simp only [putAll, Act.put, List.setIfInBounds_toArray, List.set_cons_zero, List.set_cons_succ]
                    rfl
                  refine two_ (i := 11) (j := 16) (Ni := some 18) (Nj := some 23) #[true, true, true, true, true, true, true, true, true, true, true, true, true, true, true, true, false, true, true, true, true, true, true, true, true, true, false, false, false] #[true, true, true, true, true, true, true, true, true, true, true, false, true, true, true, true, true, true, true, true, true, true, true, true, true, true, false, false, false] rfl rfl rfl rfl (by kernel_rfl) (by decide) (by decide) (fun K hK => ?_) (fun K hK => ?_)
                  · skip
                    refine value_ (w1 := ?_) (v := ?_) (by rfl) rfl ?_ ?_
                    rotate_left 2
                    · go_simp
                      constructor
                      · rfl
                      · rfl
                    refine hK.out _ _ ⟨((((below_alloc (Below.refl _ _) _)).cell (World.block_lt_of_cell? _ _ (hHeld.1))).trans (hHeld.1)), ((((below_alloc (Below.refl _ _) _)).cell (World.block_lt_of_cell? _ _ (hHeld.2.1))).trans (hHeld.2.1)), ((((below_alloc (Below.refl _ _) _)).cell (World.block_lt_of_cell? _ _ (hHeld.2.2.1))).trans (hHeld.2.2.1)), ((((below_alloc (Below.refl _ _) _)).cell (World.block_lt_of_cell? _ _ (hHeld.2.2.2.1))).trans (hHeld.2.2.2.1)), ((((below_alloc (Below.refl _ _) _)).cell (World.block_lt_of_cell? _ _ (hHeld.2.2.2.2.1))).trans (hHeld.2.2.2.2.1)), ((((below_alloc (Below.refl _ _) _)).cell (World.block_lt_of_cell? _ _ (hHeld.2.2.2.2.2.1))).trans (hHeld.2.2.2.2.2.1)), ((((below_alloc (Below.refl _ _) _)).cell (World.block_lt_of_cell? _ _ (hHeld.2.2.2.2.2.2))).trans (hHeld.2.2.2.2.2.2))⟩ (fun hHeld => ?_)
                    clear hK K
                    refine norm_ (a' := ?_) ?_ ?_
                    rotate_left
                    · show Act.put _ (some 18) _ = _
                      simp only [Act.put, List.setIfInBounds_toArray, List.set_cons_zero, List.set_cons_succ, i64_w, i32_w]
                      rfl
                    exact norm_ (by first | (simp only [putAll, Act.put, List.setIfInBounds_toArray, List.set_cons_zero, List.set_cons_succ]; done) | (simp only [putAll, Act.put, List.setIfInBounds_toArray, List.set_cons_zero, List.set_cons_succ]; rfl)) (hJ5_11_17 (sb, w5_17.heap.size, bm) _ ⟨hHeld, ⟨HBe.out.trans ((below_alloc (Below.refl _ _) _).mono HBe.out.size)⟩, ⟨⟨blk_below H5.out.1 (below_alloc (Below.refl _ _) _), H5.out.2⟩⟩, ⟨⟨blk_new _ _, HBe.out.size⟩⟩, ⟨⟨blk_below H17.out.1 (below_alloc (Below.refl _ _) _), H17.out.2⟩⟩⟩)
                  · skip
                    refine goes_ Try.func44 (by kernel_rfl) rfl #[.slice Ap np cp] (by rfl) rfl rfl (by simp only [List.map_toArray, List.map_cons, List.map_nil]; rfl) ?_
                    with_reducible refine (HCL.out _ HBe.out).mono ?_
                    rintro e w3 ⟨Aq, cq, rfl, hR, hb⟩
                    refine ⟨_, rfl, ?_⟩
                    refine hK.out _ _ ⟨(((hb).cell (World.block_lt_of_cell? _ _ (hHeld.1))).trans (hHeld.1)), (((hb).cell (World.block_lt_of_cell? _ _ (hHeld.2.1))).trans (hHeld.2.1)), (((hb).cell (World.block_lt_of_cell? _ _ (hHeld.2.2.1))).trans (hHeld.2.2.1)), (((hb).cell (World.block_lt_of_cell? _ _ (hHeld.2.2.2.1))).trans (hHeld.2.2.2.1)), (((hb).cell (World.block_lt_of_cell? _ _ (hHeld.2.2.2.2.1))).trans (hHeld.2.2.2.2.1)), (((hb).cell (World.block_lt_of_cell? _ _ (hHeld.2.2.2.2.2.1))).trans (hHeld.2.2.2.2.2.1)), (((hb).cell (World.block_lt_of_cell? _ _ (hHeld.2.2.2.2.2.2))).trans (hHeld.2.2.2.2.2.2))⟩ (fun hHeld => ?_)
                    clear hK K
                    refine norm_ (a' := ?_) ?_ ?_
                    rotate_left
                    · show Act.put _ (some 23) _ = _
                      simp only [Act.put, List.setIfInBounds_toArray, List.set_cons_zero, List.set_cons_succ, i64_w, i32_w]
                      rfl
                    exact norm_ (by first | (simp only [putAll, Act.put, List.setIfInBounds_toArray, List.set_cons_zero, List.set_cons_succ]; done) | (simp only [putAll, Act.put, List.setIfInBounds_toArray, List.set_cons_zero, List.set_cons_succ]; rfl)) (hJ5_16_17 (sb, (Aq, cq), bm) _ ⟨hHeld, ⟨HBe.out.trans (hb.mono HBe.out.size)⟩, ⟨⟨blk_below H5.out.1 hb, H5.out.2⟩⟩, ⟨hR⟩, ⟨⟨blk_below H17.out.1 hb, H17.out.2⟩⟩⟩)
              · skip
                rintro ⟨sb, pq⟩ w5_16 ⟨hHeld, HBe, H5, H16⟩
                refine norm_ (a' := ?_) ?_ ?_
                rotate_left
                · simp only [putAll, Act.put, List.setIfInBounds_toArray, List.set_cons_zero, List.set_cons_succ]
                  rfl
                refine two_ (i := 11) (j := 17) (Ni := some 18) (Nj := some 24) #[true, true, true, true, true, true, true, true, true, true, true, true, true, true, true, true, true, false, true, true, true, true, true, true, true, true, false, false, false] #[true, true, true, true, true, true, true, true, true, true, true, false, true, true, true, true, true, true, true, true, true, true, true, true, true, true, false, false, false] rfl rfl rfl rfl (by kernel_rfl) (by decide) (by decide) (fun K hK => ?_) (fun K hK => ?_)
                · skip
                  refine value_ (w1 := ?_) (v := ?_) (by rfl) rfl ?_ ?_
                  rotate_left 2
                  · go_simp
                    constructor
                    · rfl
                    · rfl
                  refine hK.out _ _ ⟨((((below_alloc (Below.refl _ _) _)).cell (World.block_lt_of_cell? _ _ (hHeld.1))).trans (hHeld.1)), ((((below_alloc (Below.refl _ _) _)).cell (World.block_lt_of_cell? _ _ (hHeld.2.1))).trans (hHeld.2.1)), ((((below_alloc (Below.refl _ _) _)).cell (World.block_lt_of_cell? _ _ (hHeld.2.2.1))).trans (hHeld.2.2.1)), ((((below_alloc (Below.refl _ _) _)).cell (World.block_lt_of_cell? _ _ (hHeld.2.2.2.1))).trans (hHeld.2.2.2.1)), ((((below_alloc (Below.refl _ _) _)).cell (World.block_lt_of_cell? _ _ (hHeld.2.2.2.2.1))).trans (hHeld.2.2.2.2.1)), ((((below_alloc (Below.refl _ _) _)).cell (World.block_lt_of_cell? _ _ (hHeld.2.2.2.2.2.1))).trans (hHeld.2.2.2.2.2.1)), ((((below_alloc (Below.refl _ _) _)).cell (World.block_lt_of_cell? _ _ (hHeld.2.2.2.2.2.2))).trans (hHeld.2.2.2.2.2.2))⟩ (fun hHeld => ?_)
                  clear hK K
                  refine norm_ (a' := ?_) ?_ ?_
                  rotate_left
                  · show Act.put _ (some 18) _ = _
                    simp only [Act.put, List.setIfInBounds_toArray, List.set_cons_zero, List.set_cons_succ, i64_w, i32_w]
                    rfl
                  exact norm_ (by first | (simp only [putAll, Act.put, List.setIfInBounds_toArray, List.set_cons_zero, List.set_cons_succ]; done) | (simp only [putAll, Act.put, List.setIfInBounds_toArray, List.set_cons_zero, List.set_cons_succ]; rfl)) (hJ5_11_16 (sb, w5_16.heap.size, pq) _ ⟨hHeld, ⟨HBe.out.trans ((below_alloc (Below.refl _ _) _).mono HBe.out.size)⟩, ⟨⟨blk_below H5.out.1 (below_alloc (Below.refl _ _) _), H5.out.2⟩⟩, ⟨⟨blk_new _ _, HBe.out.size⟩⟩, ⟨Kd.R_below H16.out (below_alloc (Below.refl _ _) _)⟩⟩)
                · skip
                  refine value_ (w1 := ?_) (v := ?_) (by rfl) rfl ?_ ?_
                  rotate_left 2
                  · go_simp
                    constructor
                    · rfl
                    · rfl
                  refine hK.out _ _ ⟨((((below_alloc (Below.refl _ _) _)).cell (World.block_lt_of_cell? _ _ (hHeld.1))).trans (hHeld.1)), ((((below_alloc (Below.refl _ _) _)).cell (World.block_lt_of_cell? _ _ (hHeld.2.1))).trans (hHeld.2.1)), ((((below_alloc (Below.refl _ _) _)).cell (World.block_lt_of_cell? _ _ (hHeld.2.2.1))).trans (hHeld.2.2.1)), ((((below_alloc (Below.refl _ _) _)).cell (World.block_lt_of_cell? _ _ (hHeld.2.2.2.1))).trans (hHeld.2.2.2.1)), ((((below_alloc (Below.refl _ _) _)).cell (World.block_lt_of_cell? _ _ (hHeld.2.2.2.2.1))).trans (hHeld.2.2.2.2.1)), ((((below_alloc (Below.refl _ _) _)).cell (World.block_lt_of_cell? _ _ (hHeld.2.2.2.2.2.1))).trans (hHeld.2.2.2.2.2.1)), ((((below_alloc (Below.refl _ _) _)).cell (World.block_lt_of_cell? _ _ (hHeld.2.2.2.2.2.2))).trans (hHeld.2.2.2.2.2.2))⟩ (fun hHeld => ?_)
                  clear hK K
                  refine norm_ (a' := ?_) ?_ ?_
                  rotate_left
                  · show Act.put _ (some 24) _ = _
                    simp only [Act.put, List.setIfInBounds_toArray, List.set_cons_zero, List.set_cons_succ, i64_w, i32_w]
                    rfl
                  exact norm_ (by first | (simp only [putAll, Act.put, List.setIfInBounds_toArray, List.set_cons_zero, List.set_cons_succ]; done) | (simp only [putAll, Act.put, List.setIfInBounds_toArray, List.set_cons_zero, List.set_cons_succ]; rfl)) (hJ5_16_17 (sb, pq, w5_16.heap.size) _ ⟨hHeld, ⟨HBe.out.trans ((below_alloc (Below.refl _ _) _).mono HBe.out.size)⟩, ⟨⟨blk_below H5.out.1 (below_alloc (Below.refl _ _) _), H5.out.2⟩⟩, ⟨Kd.R_below H16.out (below_alloc (Below.refl _ _) _)⟩, ⟨⟨blk_new _ _, HBe.out.size⟩⟩⟩)
            · skip
              rintro ⟨sb, ob⟩ w5_11 ⟨hHeld, HBe, H5, H11⟩
              refine norm_ (a' := ?_) ?_ ?_
              rotate_left
              · simp only [putAll, Act.put, List.setIfInBounds_toArray, List.set_cons_zero, List.set_cons_succ]
                rfl
              refine two_ (i := 16) (j := 17) (Ni := some 23) (Nj := some 24) #[true, true, true, true, true, true, true, true, true, true, true, true, true, true, true, true, true, false, true, true, true, true, true, true, true, true, false, false, false] #[true, true, true, true, true, true, true, true, true, true, true, true, true, true, true, true, false, true, true, true, true, true, true, true, true, true, false, false, false] rfl rfl rfl rfl (by kernel_rfl) (by decide) (by decide) (fun K hK => ?_) (fun K hK => ?_)
              · skip
                refine goes_ Try.func44 (by kernel_rfl) rfl #[.slice Ap np cp] (by rfl) rfl rfl (by simp only [List.map_toArray, List.map_cons, List.map_nil]; rfl) ?_
                with_reducible refine (HCL.out _ HBe.out).mono ?_
                rintro e w3 ⟨Aq, cq, rfl, hR, hb⟩
                refine ⟨_, rfl, ?_⟩
                refine hK.out _ _ ⟨(((hb).cell (World.block_lt_of_cell? _ _ (hHeld.1))).trans (hHeld.1)), (((hb).cell (World.block_lt_of_cell? _ _ (hHeld.2.1))).trans (hHeld.2.1)), (((hb).cell (World.block_lt_of_cell? _ _ (hHeld.2.2.1))).trans (hHeld.2.2.1)), (((hb).cell (World.block_lt_of_cell? _ _ (hHeld.2.2.2.1))).trans (hHeld.2.2.2.1)), (((hb).cell (World.block_lt_of_cell? _ _ (hHeld.2.2.2.2.1))).trans (hHeld.2.2.2.2.1)), (((hb).cell (World.block_lt_of_cell? _ _ (hHeld.2.2.2.2.2.1))).trans (hHeld.2.2.2.2.2.1)), (((hb).cell (World.block_lt_of_cell? _ _ (hHeld.2.2.2.2.2.2))).trans (hHeld.2.2.2.2.2.2))⟩ (fun hHeld => ?_)
                clear hK K
                refine norm_ (a' := ?_) ?_ ?_
                rotate_left
                · show Act.put _ (some 23) _ = _
                  simp only [Act.put, List.setIfInBounds_toArray, List.set_cons_zero, List.set_cons_succ, i64_w, i32_w]
                  rfl
                exact norm_ (by first | (simp only [putAll, Act.put, List.setIfInBounds_toArray, List.set_cons_zero, List.set_cons_succ]; done) | (simp only [putAll, Act.put, List.setIfInBounds_toArray, List.set_cons_zero, List.set_cons_succ]; rfl)) (hJ5_11_16 (sb, ob, (Aq, cq)) _ ⟨hHeld, ⟨HBe.out.trans (hb.mono HBe.out.size)⟩, ⟨⟨blk_below H5.out.1 hb, H5.out.2⟩⟩, ⟨⟨blk_below H11.out.1 hb, H11.out.2⟩⟩, ⟨hR⟩⟩)
              · skip
                refine value_ (w1 := ?_) (v := ?_) (by rfl) rfl ?_ ?_
                rotate_left 2
                · go_simp
                  constructor
                  · rfl
                  · rfl
                refine hK.out _ _ ⟨((((below_alloc (Below.refl _ _) _)).cell (World.block_lt_of_cell? _ _ (hHeld.1))).trans (hHeld.1)), ((((below_alloc (Below.refl _ _) _)).cell (World.block_lt_of_cell? _ _ (hHeld.2.1))).trans (hHeld.2.1)), ((((below_alloc (Below.refl _ _) _)).cell (World.block_lt_of_cell? _ _ (hHeld.2.2.1))).trans (hHeld.2.2.1)), ((((below_alloc (Below.refl _ _) _)).cell (World.block_lt_of_cell? _ _ (hHeld.2.2.2.1))).trans (hHeld.2.2.2.1)), ((((below_alloc (Below.refl _ _) _)).cell (World.block_lt_of_cell? _ _ (hHeld.2.2.2.2.1))).trans (hHeld.2.2.2.2.1)), ((((below_alloc (Below.refl _ _) _)).cell (World.block_lt_of_cell? _ _ (hHeld.2.2.2.2.2.1))).trans (hHeld.2.2.2.2.2.1)), ((((below_alloc (Below.refl _ _) _)).cell (World.block_lt_of_cell? _ _ (hHeld.2.2.2.2.2.2))).trans (hHeld.2.2.2.2.2.2))⟩ (fun hHeld => ?_)
                clear hK K
                refine norm_ (a' := ?_) ?_ ?_
                rotate_left
                · show Act.put _ (some 24) _ = _
                  simp only [Act.put, List.setIfInBounds_toArray, List.set_cons_zero, List.set_cons_succ, i64_w, i32_w]
                  rfl
                exact norm_ (by first | (simp only [putAll, Act.put, List.setIfInBounds_toArray, List.set_cons_zero, List.set_cons_succ]; done) | (simp only [putAll, Act.put, List.setIfInBounds_toArray, List.set_cons_zero, List.set_cons_succ]; rfl)) (hJ5_11_17 (sb, ob, w5_11.heap.size) _ ⟨hHeld, ⟨HBe.out.trans ((below_alloc (Below.refl _ _) _).mono HBe.out.size)⟩, ⟨⟨blk_below H5.out.1 (below_alloc (Below.refl _ _) _), H5.out.2⟩⟩, ⟨⟨blk_below H11.out.1 (below_alloc (Below.refl _ _) _), H11.out.2⟩⟩, ⟨⟨blk_new _ _, HBe.out.size⟩⟩⟩)
          · skip
            rintro ⟨ob, pq, bm⟩ w11_16_17 ⟨hHeld, HBe, H11, H16, H17⟩
            refine norm_ (a' := ?_) ?_ ?_
            rotate_left
            · simp only [putAll, Act.put, List.setIfInBounds_toArray, List.set_cons_zero, List.set_cons_succ]
              rfl
            refine one_ (i := 5) (N := some 12) #[true, true, true, true, true, true, true, true, true, true, true, true, true, true, true, true, true, true, true, true, true, true, true, true, true, true, false, false, false] rfl rfl (by kernel_rfl) (by decide) (fun K hK => ?_)
            refine value_ (w1 := ?_) (v := ?_) (by rfl) rfl ?_ ?_
            rotate_left 2
            · go_simp
              constructor
              · rfl
              · rfl
            refine hK.out _ _ ⟨((((below_alloc (Below.refl _ _) _)).cell (World.block_lt_of_cell? _ _ (hHeld.1))).trans (hHeld.1)), ((((below_alloc (Below.refl _ _) _)).cell (World.block_lt_of_cell? _ _ (hHeld.2.1))).trans (hHeld.2.1)), ((((below_alloc (Below.refl _ _) _)).cell (World.block_lt_of_cell? _ _ (hHeld.2.2.1))).trans (hHeld.2.2.1)), ((((below_alloc (Below.refl _ _) _)).cell (World.block_lt_of_cell? _ _ (hHeld.2.2.2.1))).trans (hHeld.2.2.2.1)), ((((below_alloc (Below.refl _ _) _)).cell (World.block_lt_of_cell? _ _ (hHeld.2.2.2.2.1))).trans (hHeld.2.2.2.2.1)), ((((below_alloc (Below.refl _ _) _)).cell (World.block_lt_of_cell? _ _ (hHeld.2.2.2.2.2.1))).trans (hHeld.2.2.2.2.2.1)), ((((below_alloc (Below.refl _ _) _)).cell (World.block_lt_of_cell? _ _ (hHeld.2.2.2.2.2.2))).trans (hHeld.2.2.2.2.2.2))⟩ (fun hHeld => ?_)
            clear hK K
            refine norm_ (a' := ?_) ?_ ?_
            rotate_left
            · show Act.put _ (some 12) _ = _
              simp only [Act.put, List.setIfInBounds_toArray, List.set_cons_zero, List.set_cons_succ, i64_w, i32_w]
              rfl
            exact norm_ (by first | (simp only [putAll, Act.put, List.setIfInBounds_toArray, List.set_cons_zero, List.set_cons_succ]; done) | (simp only [putAll, Act.put, List.setIfInBounds_toArray, List.set_cons_zero, List.set_cons_succ]; rfl)) (hJ5_11_16_17 (w11_16_17.heap.size, ob, pq, bm) _ ⟨hHeld, ⟨HBe.out.trans ((below_alloc (Below.refl _ _) _).mono HBe.out.size)⟩, ⟨⟨blk_new _ _, HBe.out.size⟩⟩, ⟨⟨blk_below H11.out.1 (below_alloc (Below.refl _ _) _), H11.out.2⟩⟩, ⟨Kd.R_below H16.out (below_alloc (Below.refl _ _) _)⟩, ⟨⟨blk_below H17.out.1 (below_alloc (Below.refl _ _) _), H17.out.2⟩⟩⟩)
        · skip
          rintro ⟨sb, pq, bm⟩ w5_16_17 ⟨hHeld, HBe, H5, H16, H17⟩
          refine norm_ (a' := ?_) ?_ ?_
          rotate_left
          · simp only [putAll, Act.put, List.setIfInBounds_toArray, List.set_cons_zero, List.set_cons_succ]
            rfl
          refine one_ (i := 11) (N := some 18) #[true, true, true, true, true, true, true, true, true, true, true, true, true, true, true, true, true, true, true, true, true, true, true, true, true, true, false, false, false] rfl rfl (by kernel_rfl) (by decide) (fun K hK => ?_)
          refine value_ (w1 := ?_) (v := ?_) (by rfl) rfl ?_ ?_
          rotate_left 2
          · go_simp
            constructor
            · rfl
            · rfl
          refine hK.out _ _ ⟨((((below_alloc (Below.refl _ _) _)).cell (World.block_lt_of_cell? _ _ (hHeld.1))).trans (hHeld.1)), ((((below_alloc (Below.refl _ _) _)).cell (World.block_lt_of_cell? _ _ (hHeld.2.1))).trans (hHeld.2.1)), ((((below_alloc (Below.refl _ _) _)).cell (World.block_lt_of_cell? _ _ (hHeld.2.2.1))).trans (hHeld.2.2.1)), ((((below_alloc (Below.refl _ _) _)).cell (World.block_lt_of_cell? _ _ (hHeld.2.2.2.1))).trans (hHeld.2.2.2.1)), ((((below_alloc (Below.refl _ _) _)).cell (World.block_lt_of_cell? _ _ (hHeld.2.2.2.2.1))).trans (hHeld.2.2.2.2.1)), ((((below_alloc (Below.refl _ _) _)).cell (World.block_lt_of_cell? _ _ (hHeld.2.2.2.2.2.1))).trans (hHeld.2.2.2.2.2.1)), ((((below_alloc (Below.refl _ _) _)).cell (World.block_lt_of_cell? _ _ (hHeld.2.2.2.2.2.2))).trans (hHeld.2.2.2.2.2.2))⟩ (fun hHeld => ?_)
          clear hK K
          refine norm_ (a' := ?_) ?_ ?_
          rotate_left
          · show Act.put _ (some 18) _ = _
            simp only [Act.put, List.setIfInBounds_toArray, List.set_cons_zero, List.set_cons_succ, i64_w, i32_w]
            rfl
          exact norm_ (by first | (simp only [putAll, Act.put, List.setIfInBounds_toArray, List.set_cons_zero, List.set_cons_succ]; done) | (simp only [putAll, Act.put, List.setIfInBounds_toArray, List.set_cons_zero, List.set_cons_succ]; rfl)) (hJ5_11_16_17 (sb, w5_16_17.heap.size, pq, bm) _ ⟨hHeld, ⟨HBe.out.trans ((below_alloc (Below.refl _ _) _).mono HBe.out.size)⟩, ⟨⟨blk_below H5.out.1 (below_alloc (Below.refl _ _) _), H5.out.2⟩⟩, ⟨⟨blk_new _ _, HBe.out.size⟩⟩, ⟨Kd.R_below H16.out (below_alloc (Below.refl _ _) _)⟩, ⟨⟨blk_below H17.out.1 (below_alloc (Below.refl _ _) _), H17.out.2⟩⟩⟩)
      · skip
        rintro ⟨sb, ob, bm⟩ w5_11_17 ⟨hHeld, HBe, H5, H11, H17⟩
        refine norm_ (a' := ?_) ?_ ?_
        rotate_left
        · simp only [putAll, Act.put, List.setIfInBounds_toArray, List.set_cons_zero, List.set_cons_succ]
          rfl
        refine one_ (i := 16) (N := some 23) #[true, true, true, true, true, true, true, true, true, true, true, true, true, true, true, true, true, true, true, true, true, true, true, true, true, true, false, false, false] rfl rfl (by kernel_rfl) (by decide) (fun K hK => ?_)
        refine goes_ Try.func44 (by kernel_rfl) rfl #[.slice Ap np cp] (by rfl) rfl rfl (by simp only [List.map_toArray, List.map_cons, List.map_nil]; rfl) ?_
        with_reducible refine (HCL.out _ HBe.out).mono ?_
        rintro e w3 ⟨Aq, cq, rfl, hR, hb⟩
        refine ⟨_, rfl, ?_⟩
        refine hK.out _ _ ⟨(((hb).cell (World.block_lt_of_cell? _ _ (hHeld.1))).trans (hHeld.1)), (((hb).cell (World.block_lt_of_cell? _ _ (hHeld.2.1))).trans (hHeld.2.1)), (((hb).cell (World.block_lt_of_cell? _ _ (hHeld.2.2.1))).trans (hHeld.2.2.1)), (((hb).cell (World.block_lt_of_cell? _ _ (hHeld.2.2.2.1))).trans (hHeld.2.2.2.1)), (((hb).cell (World.block_lt_of_cell? _ _ (hHeld.2.2.2.2.1))).trans (hHeld.2.2.2.2.1)), (((hb).cell (World.block_lt_of_cell? _ _ (hHeld.2.2.2.2.2.1))).trans (hHeld.2.2.2.2.2.1)), (((hb).cell (World.block_lt_of_cell? _ _ (hHeld.2.2.2.2.2.2))).trans (hHeld.2.2.2.2.2.2))⟩ (fun hHeld => ?_)
        clear hK K
        refine norm_ (a' := ?_) ?_ ?_
        rotate_left
        · show Act.put _ (some 23) _ = _
          simp only [Act.put, List.setIfInBounds_toArray, List.set_cons_zero, List.set_cons_succ, i64_w, i32_w]
          rfl
        exact norm_ (by first | (simp only [putAll, Act.put, List.setIfInBounds_toArray, List.set_cons_zero, List.set_cons_succ]; done) | (simp only [putAll, Act.put, List.setIfInBounds_toArray, List.set_cons_zero, List.set_cons_succ]; rfl)) (hJ5_11_16_17 (sb, ob, (Aq, cq), bm) _ ⟨hHeld, ⟨HBe.out.trans (hb.mono HBe.out.size)⟩, ⟨⟨blk_below H5.out.1 hb, H5.out.2⟩⟩, ⟨⟨blk_below H11.out.1 hb, H11.out.2⟩⟩, ⟨hR⟩, ⟨⟨blk_below H17.out.1 hb, H17.out.2⟩⟩⟩)
    · skip
      rintro ⟨sb, ob, pq⟩ w5_11_16 ⟨hHeld, HBe, H5, H11, H16⟩
      refine norm_ (a' := ?_) ?_ ?_
      rotate_left
      · simp only [putAll, Act.put, List.setIfInBounds_toArray, List.set_cons_zero, List.set_cons_succ]
        rfl
      refine one_ (i := 17) (N := some 24) #[true, true, true, true, true, true, true, true, true, true, true, true, true, true, true, true, true, true, true, true, true, true, true, true, true, true, false, false, false] rfl rfl (by kernel_rfl) (by decide) (fun K hK => ?_)
      refine value_ (w1 := ?_) (v := ?_) (by rfl) rfl ?_ ?_
      rotate_left 2
      · go_simp
        constructor
        · rfl
        · rfl
      refine hK.out _ _ ⟨((((below_alloc (Below.refl _ _) _)).cell (World.block_lt_of_cell? _ _ (hHeld.1))).trans (hHeld.1)), ((((below_alloc (Below.refl _ _) _)).cell (World.block_lt_of_cell? _ _ (hHeld.2.1))).trans (hHeld.2.1)), ((((below_alloc (Below.refl _ _) _)).cell (World.block_lt_of_cell? _ _ (hHeld.2.2.1))).trans (hHeld.2.2.1)), ((((below_alloc (Below.refl _ _) _)).cell (World.block_lt_of_cell? _ _ (hHeld.2.2.2.1))).trans (hHeld.2.2.2.1)), ((((below_alloc (Below.refl _ _) _)).cell (World.block_lt_of_cell? _ _ (hHeld.2.2.2.2.1))).trans (hHeld.2.2.2.2.1)), ((((below_alloc (Below.refl _ _) _)).cell (World.block_lt_of_cell? _ _ (hHeld.2.2.2.2.2.1))).trans (hHeld.2.2.2.2.2.1)), ((((below_alloc (Below.refl _ _) _)).cell (World.block_lt_of_cell? _ _ (hHeld.2.2.2.2.2.2))).trans (hHeld.2.2.2.2.2.2))⟩ (fun hHeld => ?_)
      clear hK K
      refine norm_ (a' := ?_) ?_ ?_
      rotate_left
      · show Act.put _ (some 24) _ = _
        simp only [Act.put, List.setIfInBounds_toArray, List.set_cons_zero, List.set_cons_succ, i64_w, i32_w]
        rfl
      exact norm_ (by first | (simp only [putAll, Act.put, List.setIfInBounds_toArray, List.set_cons_zero, List.set_cons_succ]; done) | (simp only [putAll, Act.put, List.setIfInBounds_toArray, List.set_cons_zero, List.set_cons_succ]; rfl)) (hJ5_11_16_17 (sb, ob, pq, w5_11_16.heap.size) _ ⟨hHeld, ⟨HBe.out.trans ((below_alloc (Below.refl _ _) _).mono HBe.out.size)⟩, ⟨⟨blk_below H5.out.1 (below_alloc (Below.refl _ _) _), H5.out.2⟩⟩, ⟨⟨blk_below H11.out.1 (below_alloc (Below.refl _ _) _), H11.out.2⟩⟩, ⟨Kd.R_below H16.out (below_alloc (Below.refl _ _) _)⟩, ⟨⟨blk_new _ _, HBe.out.size⟩⟩⟩)
  rintro ⟨sb, ob, pq, bm⟩ w5_11_16_17 ⟨hHeld, HBe, H5, H11, H16, H17⟩
  refine norm_ (a' := ?_) ?_ ?_
  rotate_left
  · simp only [putAll, Act.put, List.setIfInBounds_toArray, List.set_cons_zero, List.set_cons_succ]
    rfl
  refine pure_ (i := 26) (N := some 33) (v := ?_) (a' := ?_) #[true, true, true, true, true, true, true, true, true, true, true, true, true, true, true, true, true, true, true, true, true, true, true, true, true, true, true, false, false] rfl rfl (by kernel_rfl) (fun _ _ _ h => h) (Or.inl ⟨by rfl, ?_⟩) ?_ ?_
  rotate_left
  · intro w'
    go_simp
    with_reducible rfl
  rotate_left
  · simp only [Act.put, List.setIfInBounds_toArray, List.set_cons_zero, List.set_cons_succ, i64_w, i32_w]
    rfl
  refine one_ (i := 27) (N := some 34) #[true, true, true, true, true, true, true, true, true, true, true, true, true, true, true, true, true, true, true, true, true, true, true, true, true, true, true, true, false] rfl rfl (by kernel_rfl) (by decide) (fun K hK => ?_)
  refine value_ (w1 := ?_) (v := ?_) (by rfl) rfl ?_ ?_
  rotate_left 2
  · go_simp
    constructor
    · rfl
    · rfl
  refine hK.out _ _ ⟨((((below_alloc (Below.refl _ _) _)).cell (World.block_lt_of_cell? _ _ (hHeld.1))).trans (hHeld.1)), ((((below_alloc (Below.refl _ _) _)).cell (World.block_lt_of_cell? _ _ (hHeld.2.1))).trans (hHeld.2.1)), ((((below_alloc (Below.refl _ _) _)).cell (World.block_lt_of_cell? _ _ (hHeld.2.2.1))).trans (hHeld.2.2.1)), ((((below_alloc (Below.refl _ _) _)).cell (World.block_lt_of_cell? _ _ (hHeld.2.2.2.1))).trans (hHeld.2.2.2.1)), ((((below_alloc (Below.refl _ _) _)).cell (World.block_lt_of_cell? _ _ (hHeld.2.2.2.2.1))).trans (hHeld.2.2.2.2.1)), ((((below_alloc (Below.refl _ _) _)).cell (World.block_lt_of_cell? _ _ (hHeld.2.2.2.2.2.1))).trans (hHeld.2.2.2.2.2.1)), ((((below_alloc (Below.refl _ _) _)).cell (World.block_lt_of_cell? _ _ (hHeld.2.2.2.2.2.2))).trans (hHeld.2.2.2.2.2.2))⟩ (fun hHeld => ?_)
  clear hK K
  refine norm_ (a' := ?_) ?_ ?_
  rotate_left
  · show Act.put _ (some 34) _ = _
    simp only [Act.put, List.setIfInBounds_toArray, List.set_cons_zero, List.set_cons_succ, i64_w, i32_w]
    rfl
  refine pure_ (i := 28) (N := some 3) (v := ?_) (a' := ?_) #[true, true, true, true, true, true, true, true, true, true, true, true, true, true, true, true, true, true, true, true, true, true, true, true, true, true, true, true, true] rfl rfl (by kernel_rfl) (fun _ _ _ h => h) (Or.inl ⟨by rfl, ?_⟩) ?_ ?_
  rotate_left
  · intro w'
    go_simp
    with_reducible rfl
  rotate_left
  · simp only [Act.put, List.setIfInBounds_toArray, List.set_cons_zero, List.set_cons_succ, i64_w, i32_w]
    rfl
  refine done_ (by kernel_rfl) ?_
  obtain ⟨g, hgg⟩ : ∃ g, g = w5_11_16_17.heap.size := ⟨_, rfl⟩
  obtain ⟨w1, hw1⟩ : ∃ w1, w1 = w5_11_16_17.alloc (.cells #[.slice (some ⟨sb, 0, none⟩) n n, .slice (some ⟨ob, 0, none⟩) n n, .slice pq.1 np pq.2, .map (some bm), .bool fs, .int .i64 fl, .slice Au nu cu, .bool fd] 81) := ⟨_, rfl⟩
  have FG := Aside0.mk (show w1.heap[g]? = some (.cells #[.slice (some ⟨sb, 0, none⟩) n n, .slice (some ⟨ob, 0, none⟩) n n, .slice pq.1 np pq.2, .map (some bm), .bool fs, .int .i64 fl, .slice Au nu cu, .bool fd] 81 (0, 0)) by rw [hw1, hgg]; exact blk_new _ _)
  have hb1 : Below w5_11_16_17.heap.size w5_11_16_17 w1 := by rw [hw1]; exact below_alloc (Below.refl _ _) _
  have HB1 := Aside0.mk (HBe.out.trans (hb1.mono HBe.out.size))
  have FS := Aside0.mk (blk_below H5.out.1 hb1)
  have FO := Aside0.mk (blk_below H11.out.1 hb1)
  have FM := Aside0.mk (blk_below H17.out.1 hb1)
  have FP := Aside0.mk (Kd.R_below H16.out hb1)
  have GE := Aside0.mk (show W.heap.size ≤ g ∧ W.heap.size ≤ sb ∧ W.heap.size ≤ ob ∧ W.heap.size ≤ bm from ⟨by rw [hgg]; exact HBe.out.size, H5.out.2, H11.out.2, H17.out.2⟩)
  rw [← hw1, ← hgg]
  clear hm1 hm2 hk hb1 hw1 hgg H5 H11 H16 H17 HBe HCL hHeld c0 c1 c2 c4 c5 c6 c7
  go_wp2_with fail
  obtain ⟨w2, hcp, fs2, hg2⟩ := copy_strs w1.drew sb L.sb n (List.replicate n ⟨#[]⟩) S.stable FS.out ((HSRC.out _ HB1.out.drew).hs) (by simp) EQS.out.1.symm
  have FS2 := Aside0.mk fs2
  have HG2 := Aside0.mk hg2
  have p0 : w1.cell? ⟨g, 0, none⟩ = some (.slice (some ⟨sb, 0, none⟩) n n) := by rw [blk_cell FG.out]; rfl
  have d0 : w1.cell? ⟨L.g, 0, none⟩ = some (.slice (some ⟨L.sb, 0, none⟩) n n) := by have := (HSRC.out _ HB1.out).c0; rw [← EQS.out.1] at this; exact this
  clear fs2 hg2
  refine start_ (n := 9) (S := fun w' => w'.cell? ⟨g, 0, none⟩ = some (.slice (some ⟨sb, 0, none⟩) n n) ∧ w'.cell? ⟨L.g, 0, none⟩ = some (.slice (some ⟨L.sb, 0, none⟩) n n)) (ds := [8]) #[false, false, false, false, false, false, false, false, false] (by kernel_rfl) rfl rfl ⟨p0, d0⟩ (fun hHeld => ?_)
  refine pure_ (i := 0) (N := some 35) (v := ?_) (a' := ?_) #[true, false, false, false, false, false, false, false, false] rfl rfl (by kernel_rfl) (fun _ _ _ h => h) (Or.inl ⟨by rfl, ?_⟩) ?_ ?_
  rotate_left
  · intro w'
    go_simp
    with_reducible rfl
  rotate_left
  · simp only [Act.put, List.setIfInBounds_toArray, List.set_cons_zero, List.set_cons_succ, i64_w, i32_w]
    rfl
  refine pure_ (i := 1) (N := some 36) (v := ?_) (a' := ?_) #[true, true, false, false, false, false, false, false, false] rfl rfl (by kernel_rfl) (fun _ _ _ h => h) (Or.inl ⟨by rfl, ?_⟩) ?_ ?_
  rotate_left
  · intro w'
    go_simp
    with_reducible rfl
  rotate_left
  · simp only [Act.put, List.setIfInBounds_toArray, List.set_cons_zero, List.set_cons_succ, i64_w, i32_w]
    rfl
  refine pure_ (i := 2) (N := some 37) (v := ?_) (a' := ?_) #[true, true, true, false, false, false, false, false, false] rfl rfl (by kernel_rfl) (fun _ _ _ h => h) (Or.inl ⟨by rfl, ?_⟩) ?_ ?_
  rotate_left
  · intro w'
    go_simp
    with_reducible rfl
  rotate_left
  · simp only [Act.put, List.setIfInBounds_toArray, List.set_cons_zero, List.set_cons_succ, i64_w, i32_w]
    rfl
  refine pure_ (i := 4) (N := some 39) (v := ?_) (a' := ?_) #[true, true, true, false, true, false, false, false, false] rfl rfl (by kernel_rfl) (fun _ _ _ h => h) (Or.inl ⟨by rfl, ?_⟩) ?_ ?_
  rotate_left
  · intro w'
    go_simp
    with_reducible rfl
  rotate_left
  · simp only [Act.put, List.setIfInBounds_toArray, List.set_cons_zero, List.set_cons_succ, i64_w, i32_w]
    rfl
  refine pure_ (i := 5) (N := some 40) (v := ?_) (a' := ?_) #[true, true, true, false, true, true, false, false, false] rfl rfl (by kernel_rfl) (fun _ _ _ h => h) (Or.inl ⟨by rfl, ?_⟩) ?_ ?_
  rotate_left
  · intro w'
    go_simp
    with_reducible rfl
  rotate_left
  · simp only [Act.put, List.setIfInBounds_toArray, List.set_cons_zero, List.set_cons_succ, i64_w, i32_w]
    rfl
  refine pure_ (i := 6) (N := some 41) (v := ?_) (a' := ?_) #[true, true, true, false, true, true, true, false, false] rfl rfl (by kernel_rfl) (fun _ _ _ h => h) (Or.inl ⟨by rfl, ?_⟩) ?_ ?_
  rotate_left
  · intro w'
    go_simp
    with_reducible rfl
  rotate_left
  · simp only [Act.put, List.setIfInBounds_toArray, List.set_cons_zero, List.set_cons_succ, i64_w, i32_w]
    rfl
  refine take_ (i := 3) (N := some 38) (v := ?_) (a' := ?_) #[true, true, true, true, true, true, true, false, false] rfl rfl (by kernel_rfl) (fun _ _ _ h => h) (Or.inl ⟨by rfl, ?_⟩) hHeld ?_ ?_
  rotate_left
  · rintro w' ⟨s0, s1⟩
    go_simp
    with_reducible rfl
  rotate_left
  · simp only [Act.put, List.setIfInBounds_toArray, List.set_cons_zero, List.set_cons_succ, i64_w, i32_w]
    rfl
  refine take_ (i := 7) (N := some 42) (v := ?_) (a' := ?_) #[true, true, true, true, true, true, true, true, false] rfl rfl (by kernel_rfl) (fun _ _ _ h => h) (Or.inl ⟨by rfl, ?_⟩) hHeld ?_ ?_
  rotate_left
  · rintro w' ⟨s0, s1⟩
    go_simp
    with_reducible rfl
  rotate_left
  · simp only [Act.put, List.setIfInBounds_toArray, List.set_cons_zero, List.set_cons_succ, i64_w, i32_w]
    rfl
  refine last_ (i := 8) (N := some 43) #[true, true, true, true, true, true, true, true, true] rfl rfl (by kernel_rfl) (by decide) (fun K hK => ?_)
  refine value_ (w1 := ?_) (v := ?_) (by rfl) rfl ?_ ?_
  rotate_left 2
  · go_simp
    constructor
    · rfl
    · rfl
  refine hK.out _ _ ?_
  clear hK K
  refine norm_ (a' := ?_) ?_ ?_
  rotate_left
  · show Act.put _ (some 43) _ = _
    simp only [Act.put, List.setIfInBounds_toArray, List.set_cons_zero, List.set_cons_succ, i64_w, i32_w]
    rfl
  refine done_ (by kernel_rfl) ?_
  have HB3 := Aside0.mk (show Below W.heap.size W w2 from HB1.out.drew.grown HG2.out HB1.out.drew.size (fun j hj => by cases hj; exact GE.out.2.1))
  have FG3 := Aside0.mk (show w2.heap[g]? = some (.cells #[.slice (some ⟨sb, 0, none⟩) n n, .slice (some ⟨ob, 0, none⟩) n n, .slice pq.1 np pq.2, .map (some bm), .bool fs, .int .i64 fl, .slice Au nu cu, .bool fd] 81 (0, 0)) from (HG2.out.block g (show g < w1.drew.heap.size from blk_lt FG.out) (fun e => blk_ne FG.out FS.out (by decide) (Option.some.inj e))).trans FG.out)
  have FO3 := Aside0.mk (show w2.heap[ob]? = some (.cells (nils n) 26 (0, 0)) from (HG2.out.block ob (show ob < w1.drew.heap.size from blk_lt FO.out) (fun e => blk_ne FO.out FS.out (by decide) (Option.some.inj e))).trans FO.out)
  have FM3 := Aside0.mk (show w2.heap[bm]? = some (.map #[] 0) from (HG2.out.block bm (show bm < w1.drew.heap.size from blk_lt FM.out) (fun e => by have h1 := FM.out; rw [Option.some.inj e] at h1; have h2 := h1.symm.trans FS.out; cases h2)).trans FM.out)
  have FP3 := Aside0.mk (show Kd.R k99 84 w2 W.heap.size (fun k => W.heap.size ≤ k) (.slice pq.1 np pq.2) xs from Kd.R_mono (Kd.R_step (Kd.R_types (show Kd.R k99 84 w1.drew W.heap.size (fun k => W.heap.size ≤ k) (.slice pq.1 np pq.2) xs from Kd.R_below FP.out (Below.refl _ _).drew) (show w1.drew.heap[sb]? = some (.cells (strs (List.replicate n ⟨#[]⟩)) 9 (0, 0)) from FS.out) (by decide)) (fun k hk hlt => HG2.out.block k hlt (fun e => hk.2 (Option.some.inj e)))) (fun k hk => hk.1))
  clear HB1 FG FO FM FP FS HG2 hcp p0 d0 hHeld
  have c1 : w2.cell? ⟨L.g, 1, none⟩ = some (.slice (some ⟨L.ob, 0, none⟩) n n) := by have := (HSRC.out _ HB3.out).c1; rw [← EQS.out.1] at this; exact this
  have hnl : (nils n).toList.length = n := by unfold nils; simp
  go_wp2_with fail
  go_loopg [4, 49] n (fun gg _ s49 wr => ∃ (j : Nat) (vs' : List Value), s49 = .int .i64 j ∧ j ≤ n ∧ n - j ≤ gg ∧ Aside0 (vs'.length = n) ∧ Aside0 (wr.heap[ob]? = some (.cells vs'.toArray 26 (0, 0))) ∧
    Aside0 (∀ i v x, i < j → vs'[i]? = some v → S.old[i]? = some x → Kd.R Kd.string 9 wr w2.heap.size (fun k => w2.heap.size ≤ k) v x) ∧ Aside0 (Kept w2 wr (fun k => k = ob)) ∧ Aside0 (Below W.heap.size W wr))
  case atStart => exact ⟨0, (nils n).toList, by go_num, Nat.zero_le _, by omega, ⟨hnl⟩, ⟨by rw [FO3.out]⟩, ⟨fun i v x hi => by omega⟩, ⟨Kept.refl _ _⟩, HB3⟩
  case round =>
    clear c1 hnl
    obtain ⟨j, vs', rfl, hj, hgg, HVL, HXO, HRW, HKE, HBW⟩ := hrel
    have GGO := Aside0.mk (show g ≠ ob from blk_ne FG3.out FO3.out (by decide))
    have HGW := Aside0.mk (blk_kept FG3.out HKE.out GGO.out)
    by_cases hlt : j < n
    · have hltz : (j : Int) < (n : Int) := by omega
      have hjo : j < S.old.length := by have := EQS.out.2.2.2.2.2.2.2; omega
      obtain ⟨Aj, cj, co, hxc, hxF, hvs⟩ := (HSRC.out _ HBW.out).co j hjo
      obtain ⟨x, hx⟩ : ∃ x, x = S.old[j] := ⟨_, rfl⟩
      have hx8 : x.length ≤ 1000000 := by rw [hx]; exact Nat.le_trans (HFI.out.olen _ (List.getElem_mem hjo)) (by decide)
      rw [← hx] at co hxc hxF
      have HXE := Aside0.mk (show S.old[j]? = some x by rw [hx]; exact List.getElem?_eq_getElem hjo)
      have HC5 := Aside0.mk (fun (w : World) (hb : Below wr.heap.size wr w) => clone45 w Aj cj x (Kd.C_below (Kd.F_now hxF) hb) hx8)
      obtain ⟨nx, hnx⟩ : ∃ nx, nx = x.length := ⟨_, rfl⟩
      rw [← hnx] at co HC5
      have q1 : wr.cell? ⟨g, 1, none⟩ = some (.slice (some ⟨ob, 0, none⟩) n n) := by rw [blk_cell HGW.out]; rfl
      have d1 : wr.cell? ⟨L.g, 1, none⟩ = some (.slice (some ⟨L.ob, 0, none⟩) n n) := by have := (HSRC.out _ HBW.out).c1; rw [← EQS.out.1] at this; exact this
      have HBD := Aside0.mk (show Below wr.heap.size wr wr.drew from (Below.refl _ _).drew)
      clear hx hxc hxF hnx hx8 hvs hjo
      go_wp2_with fail
      refine start_ (n := 15) (S := fun w' => w'.cell? ⟨g, 1, none⟩ = some (.slice (some ⟨ob, 0, none⟩) n n) ∧ w'.cell? ⟨L.g, 1, none⟩ = some (.slice (some ⟨L.ob, 0, none⟩) n n) ∧ w'.cell? ⟨L.ob, j, none⟩ = some (.slice Aj nx cj)) (ds := [14]) #[false, false, false, false, false, false, false, false, false, false, false, false, false, false, false] (by kernel_rfl) rfl rfl ⟨q1, d1, co⟩ (fun hHeld => ?_)
      refine pure_ (i := 0) (N := some 52) (v := ?_) (a' := ?_) #[true, false, false, false, false, false, false, false, false, false, false, false, false, false, false] rfl rfl (by kernel_rfl) (fun _ _ _ h => h) (Or.inl ⟨by rfl, ?_⟩) ?_ ?_
      rotate_left
      · intro w'
        go_simp
        with_reducible rfl
      rotate_left
      · simp only [Act.put, List.setIfInBounds_toArray, List.set_cons_zero, List.set_cons_succ, i64_w, i32_w]
        rfl
      refine pure_ (i := 1) (N := some 53) (v := ?_) (a' := ?_) #[true, true, false, false, false, false, false, false, false, false, false, false, false, false, false] rfl rfl (by kernel_rfl) (fun _ _ _ h => h) (Or.inl ⟨by rfl, ?_⟩) ?_ ?_
      rotate_left
      · intro w'
        go_simp
        with_reducible rfl
      rotate_left
      · simp only [Act.put, List.setIfInBounds_toArray, List.set_cons_zero, List.set_cons_succ, i64_w, i32_w]
        rfl
      refine pure_ (i := 2) (N := some 54) (v := ?_) (a' := ?_) #[true, true, true, false, false, false, false, false, false, false, false, false, false, false, false] rfl rfl (by kernel_rfl) (fun _ _ _ h => h) (Or.inl ⟨by rfl, ?_⟩) ?_ ?_
      rotate_left
      · intro w'
        go_simp
        with_reducible rfl
      rotate_left
      · simp only [Act.put, List.setIfInBounds_toArray, List.set_cons_zero, List.set_cons_succ, i64_w, i32_w]
        rfl
      refine pure_ (i := 4) (N := some 56) (v := ?_) (a' := ?_) #[true, true, true, false, true, false, false, false, false, false, false, false, false, false, false] rfl rfl (by kernel_rfl) (fun _ _ _ h => h) (Or.inl ⟨by rfl, ?_⟩) ?_ ?_
      rotate_left
      · intro w'
        go_simp
        with_reducible rfl
      rotate_left
      · simp only [Act.put, List.setIfInBounds_toArray, List.set_cons_zero, List.set_cons_succ, i64_w, i32_w]
        rfl
      refine pure_ (i := 5) (N := some 57) (v := ?_) (a' := ?_) #[true, true, true, false, true, true, false, false, false, false, false, false, false, false, false] rfl rfl (by kernel_rfl) (fun _ _ _ h => h) (Or.inl ⟨by rfl, ?_⟩) ?_ ?_
      rotate_left
      · intro w'
        go_simp
        with_reducible rfl
      rotate_left
      · simp only [Act.put, List.setIfInBounds_toArray, List.set_cons_zero, List.set_cons_succ, i64_w, i32_w]
        rfl
      refine pure_ (i := 6) (N := some 58) (v := ?_) (a' := ?_) #[true, true, true, false, true, true, true, false, false, false, false, false, false, false, false] rfl rfl (by kernel_rfl) (fun _ _ _ h => h) (Or.inl ⟨by rfl, ?_⟩) ?_ ?_
      rotate_left
      · intro w'
        go_simp
        with_reducible rfl
      rotate_left
      · simp only [Act.put, List.setIfInBounds_toArray, List.set_cons_zero, List.set_cons_succ, i64_w, i32_w]
        rfl
      refine pure_ (i := 7) (N := some 59) (v := ?_) (a' := ?_) #[true, true, true, false, true, true, true, true, false, false, false, false, false, false, false] rfl rfl (by kernel_rfl) (fun _ _ _ h => h) (Or.inl ⟨by rfl, ?_⟩) ?_ ?_
      rotate_left
      · intro w'
        go_simp
        with_reducible rfl
      rotate_left
      · simp only [Act.put, List.setIfInBounds_toArray, List.set_cons_zero, List.set_cons_succ, i64_w, i32_w]
        rfl
      refine pure_ (i := 9) (N := some 61) (v := ?_) (a' := ?_) #[true, true, true, false, true, true, true, true, false, true, false, false, false, false, false] rfl rfl (by kernel_rfl) (fun _ _ _ h => h) (Or.inl ⟨by rfl, ?_⟩) ?_ ?_
      rotate_left
      · intro w'
        go_simp
        with_reducible rfl
      rotate_left
      · simp only [Act.put, List.setIfInBounds_toArray, List.set_cons_zero, List.set_cons_succ, i64_w, i32_w]
        rfl
      refine take_ (i := 3) (N := some 55) (v := ?_) (a' := ?_) #[true, true, true, true, true, true, true, true, false, true, false, false, false, false, false] rfl rfl (by kernel_rfl) (fun _ _ _ h => h) (Or.inl ⟨by rfl, ?_⟩) hHeld ?_ ?_
      rotate_left
      · rintro w' ⟨s0, s1, s2⟩
        go_simp
        with_reducible rfl
      rotate_left
      · simp only [Act.put, List.setIfInBounds_toArray, List.set_cons_zero, List.set_cons_succ, i64_w, i32_w]
        rfl
      refine take_ (i := 8) (N := some 60) (v := ?_) (a' := ?_) #[true, true, true, true, true, true, true, true, true, true, false, false, false, false, false] rfl rfl (by kernel_rfl) (fun _ _ _ h => h) (Or.inl ⟨by rfl, ?_⟩) hHeld ?_ ?_
      rotate_left
      · rintro w' ⟨s0, s1, s2⟩
        go_simp
        with_reducible rfl
      rotate_left
      · simp only [Act.put, List.setIfInBounds_toArray, List.set_cons_zero, List.set_cons_succ, i64_w, i32_w]
        rfl
      refine pure_ (i := 10) (N := some 62) (v := ?_) (a' := ?_) #[true, true, true, true, true, true, true, true, true, true, true, false, false, false, false] rfl rfl (by kernel_rfl) (fun _ _ _ h => h) (Or.inl ⟨by rfl, ?_⟩) ?_ ?_
      rotate_left
      · intro w'
        go_simp
        with_reducible rfl
      rotate_left
      · simp only [Act.put, List.setIfInBounds_toArray, List.set_cons_zero, List.set_cons_succ, i64_w, i32_w]
        rfl
      refine take_ (i := 11) (N := some 63) (v := ?_) (a' := ?_) #[true, true, true, true, true, true, true, true, true, true, true, true, false, false, false] rfl rfl (by kernel_rfl) (fun _ _ _ h => h) (Or.inl ⟨by rfl, ?_⟩) hHeld ?_ ?_
      rotate_left
      · rintro w' ⟨s0, s1, s2⟩
        go_simp
        with_reducible rfl
      rotate_left
      · simp only [Act.put, List.setIfInBounds_toArray, List.set_cons_zero, List.set_cons_succ, i64_w, i32_w]
        rfl
      refine one_ (i := 12) (N := some 64) #[true, true, true, true, true, true, true, true, true, true, true, true, true, false, false] rfl rfl (by kernel_rfl) (by decide) (fun K hK => ?_)
      refine goes_ Try.func45 (by kernel_rfl) rfl #[.slice Aj nx cj] (by rfl) rfl rfl (by simp only [List.map_toArray, List.map_cons, List.map_nil]; rfl) ?_
      with_reducible refine (HC5.out _ HBD.out).mono ?_
      rintro e w5 ⟨v5, rfl, hR5, hb5⟩
      refine ⟨_, rfl, ?_⟩
      have HR5 := Aside0.mk hR5
      have HB5 := Aside0.mk (show Below wr.heap.size wr w5 from HBD.out.trans (hb5.mono (Nat.le_refl _)))
      have fo5 : w5.frozen? ⟨ob, j, none⟩ = false := blk_frozen (blk_below HXO.out HB5.out) j
      have co5 : w5.cell? ⟨ob, j, none⟩ = some (vs'[j]'(by have := HVL.out; omega)) := by rw [blk_cell (blk_below HXO.out HB5.out)]; simp
      obtain ⟨A5, c5, hv5⟩ := Kd.R_slice hR5
      subst hv5
      clear hR5 hb5
      refine hK.out _ _ ⟨((HB5.out.cell (World.block_lt_of_cell? _ _ q1)).trans q1), ((HB5.out.cell (World.block_lt_of_cell? _ _ d1)).trans d1), ((HB5.out.cell (World.block_lt_of_cell? _ _ co)).trans co)⟩ (fun hHeld => ?_)
      clear hK K
      refine norm_ (a' := ?_) ?_ ?_
      rotate_left
      · show Act.put _ (some 64) _ = _
        simp only [Act.put, List.setIfInBounds_toArray, List.set_cons_zero, List.set_cons_succ, i64_w, i32_w]
        rfl
      refine pure_ (i := 13) (N := some 65) (v := ?_) (a' := ?_) #[true, true, true, true, true, true, true, true, true, true, true, true, true, true, false] rfl rfl (by kernel_rfl) (fun _ _ _ h => h) (Or.inl ⟨by rfl, ?_⟩) ?_ ?_
      rotate_left
      · intro w'
        go_simp
        with_reducible rfl
      rotate_left
      · simp only [Act.put, List.setIfInBounds_toArray, List.set_cons_zero, List.set_cons_succ, i64_w, i32_w]
        rfl
      refine last_ (i := 14) (N := none) #[true, true, true, true, true, true, true, true, true, true, true, true, true, true, true] rfl rfl (by kernel_rfl) (by decide) (fun K hK => ?_)
      refine skip_ (w1 := ?_) (by rfl) rfl ?_ ?_
      rotate_left
      · go_simp
        rfl
      refine hK.out _ _ ?_
      clear hK K
      refine done_ (by kernel_rfl) ?_
      clear hHeld q1 d1 co fo5 co5 HC5 HBD
      go_wp2_with fail
      go_roundg (n - (j + 1))
      case measure => omega
      case rel =>
        have hle2 : w2.heap.size ≤ wr.heap.size := HKE.out.1
        have hob2 : ob < w2.heap.size := blk_lt FO3.out
        have hst : ∀ k, w2.heap.size ≤ k → k < wr.heap.size → (w5.setCell ⟨ob, j, none⟩ (.slice A5 x.length c5)).heap[k]? = wr.heap[k]? := fun k hk hlt => (Below.heap_setCell _ _ _ _ (by show k ≠ ob; omega)).trans (HB5.out.block k hlt)
        have hst5 : ∀ k, w2.heap.size ≤ k → (w5.setCell ⟨ob, j, none⟩ (.slice A5 x.length c5)).heap[k]? = w5.heap[k]? := fun k hk => Below.heap_setCell _ _ _ _ (by show k ≠ ob; omega)
        refine ⟨j + 1, vs'.set j (.slice A5 x.length c5), by go_num, by omega, Nat.le_refl _, ⟨by rw [List.length_set]; exact HVL.out⟩, ⟨blk_put (blk_below HXO.out HB5.out) j _ (by rw [List.setIfInBounds_toArray])⟩, ⟨fun i v y hi hv hy => ?_⟩, ⟨?_⟩, ⟨?_⟩⟩
        · rw [List.getElem?_set] at hv
          by_cases e : j = i
          · subst e
            rw [if_pos rfl, if_pos (by have := HVL.out; omega)] at hv
            obtain rfl := Option.some.inj hv
            obtain rfl := Option.some.inj (HXE.out.symm.trans hy)
            refine Kd.R_step (Kd.R_mono (Kd.R_lower HR5.out ?_) (fun k hk => ?_)) (fun k hk _ => hst5 k hk)
            · exact hle2
            · exact Nat.le_trans hle2 hk
          · rw [if_neg e] at hv
            exact Kd.R_step (HRW.out i v y (by omega) hv hy) hst
        · exact Kept.setCell (Kept.below HKE.out HB5.out) (p := ⟨ob, j, none⟩) (Or.inl rfl) _
        · exact ((HBW.out.trans (HB5.out.mono HBW.out.size))).setCell (p := ⟨ob, j, none⟩) GE.out.2.2.1 _
    · obtain rfl : n = j := by omega
      have c3 : wr.cell? ⟨L.g, 3, none⟩ = some (.map (some L.bm)) := (HSRC.out _ HBW.out).c3
      obtain ⟨o, hrg, hR0⟩ := (HSRC.out _ HBW.out).hm.range
      have HR0 := Aside0.mk hR0
      clear hR0 hlt hj hgg
      obtain ⟨w4, hw4⟩ : ∃ w4, w4 = wr := ⟨_, rfl⟩
      subst hw4
      go_wp2_with fail
      obtain ⟨it, hit⟩ : ∃ it, it = w4.heap.size := ⟨_, rfl⟩
      obtain ⟨w5, hw5⟩ : ∃ w5, w5 = w4.alloc o := ⟨_, rfl⟩
      have hb5 : Below w4.heap.size w4 w5 := by rw [hw5]; exact below_alloc (Below.refl _ _) _
      rw [← hw5, ← hit] at HR0
      rw [← hw5, ← hit]
      have HB5 := Aside0.mk hb5
      have HIT := Aside0.mk hit
      have BG := Aside0.mk (show bm ≠ g from fun e => by have h1 := FM3.out; rw [e] at h1; have h2 := h1.symm.trans FG3.out; cases h2)
      have BO := Aside0.mk (show bm ≠ ob from fun e => by have h1 := FM3.out; rw [e] at h1; have h2 := h1.symm.trans FO3.out; cases h2)
      have BS := Aside0.mk (show bm ≠ sb from fun e => by have h1 := FM3.out; rw [e] at h1; have h2 := h1.symm.trans FS2.out; cases h2)
      have BL := Aside0.mk (show bm < w2.heap.size from blk_lt FM3.out)
      have GL := Aside0.mk (show g < w2.heap.size from blk_lt FG3.out)
      have HM5 := Aside0.mk (show MapIs w5 bm [] from ⟨#[], 0, blk_below (blk_kept FM3.out HKE.out BO.out) hb5, rfl, List.nodup_nil, MapKept.stamped_empty 0⟩)
      have LB := Aside0.mk (show L.bm < W.heap.size from (HSRC.out W (Below.refl _ _)).hm.lt)
      clear hb5 hw5 hit hrg c3
      go_loopg [5, 6] m.length (fun gg _ _ wr => ∃ (lf : Int → Bool) (cnt : Nat) (m2 : Ents), cnt ≤ gg ∧ Aside0 (Rng wr L.bm it m lf cnt) ∧ Aside0 (MapIs wr bm m2) ∧ Aside0 (∀ a, look a m2 = if lf a = true then none else look a m) ∧ Aside0 (Kept w5 wr (fun k => k = bm ∨ k = it)) ∧ Aside0 (Below W.heap.size W wr))
      case atStart => exact ⟨fun _ => true, m.length, [], Nat.le_refl _, HR0, HM5, ⟨fun a => by simp [look]⟩, ⟨Kept.refl _ _⟩, ⟨HBW.out.trans (HB5.out.mono HBW.out.size)⟩⟩
      case round =>
        clear HR0 HM5
        obtain ⟨lf, cnt, m2, hcnt, HR, HM, HLK, HK5, HBR⟩ := hrel
        have HGR := Aside0.mk (blk_kept (blk_below HGW.out HB5.out) HK5.out (fun e => e.elim (fun e => BG.out e.symm) (fun e => by have h1 := GL.out; have h2 := HIT.out; have h3 := HKE.out.1; omega)))
        rcases HR.out.next 0 with ⟨h0, hlf, hnx⟩ | ⟨x, c, w6, n', hlx, hnx, hR6, hlt, hg6, hs6, hen⟩
        · have c6 : wr.cell? ⟨L.g, 6, none⟩ = some (.slice Au nu cu) := by have := (HSRC.out _ HBR.out).c6; rw [← EQS.out.2.2.1] at this; exact this
          have HC6 := Aside0.mk (clone46 wr Au cu S.surv (Kd.C_below HUC.out HBR.out) HSL.out)
          rw [← EQS.out.2.2.1] at HC6
          have HLF := Aside0.mk hlf
          clear h0 hlf
          go_wp2_with fail
          refine HC6.out.mono ?_
          rintro e w7 ⟨v7, rfl, hR7, hb7⟩
          obtain ⟨A7, c7, rfl⟩ := Kd.R_slice hR7
          have HR7 := Aside0.mk hR7
          have HB7 := Aside0.mk hb7
          have HG7 := Aside0.mk (blk_below HGR.out hb7)
          have g6 : w7.cell? ⟨g, 6, none⟩ = some (.slice Au nu cu) := by rw [blk_cell HG7.out]; rfl
          have f6 : w7.frozen? ⟨g, 6, none⟩ = false := blk_frozen HG7.out 6
          clear hR7 hb7 HC6 c6 hnx
          go_wp2_with fail
          go_ret
          obtain ⟨w9, hw9⟩ : ∃ w9, w9 = w7.setCell ⟨g, 6, none⟩ (.slice A7 S.surv.length c7) := ⟨_, rfl⟩
          have hfar : ∀ k, k ≠ g → w9.heap[k]? = w7.heap[k]? := fun k hk => by rw [hw9]; exact Below.heap_setCell _ _ _ _ hk
          have h24 : w2.heap.size ≤ w4.heap.size := HKE.out.1
          have h45 : w4.heap.size ≤ w5.heap.size := HB5.out.size
          have h5r : w5.heap.size ≤ wr.heap.size := HK5.out.1
          have h7r : wr.heap.size ≤ w7.heap.size := HB7.out.size
          have hit := HIT.out
          have gl := GL.out
          have bl := BL.out
          have h4 : ∀ k, k < w4.heap.size → k ≠ bm → k ≠ g → w9.heap[k]? = w4.heap[k]? := fun k h1 h2 h3 =>
            (hfar k h3).trans ((HB7.out.block k (by omega)).trans ((HK5.out.2 k (by omega) (fun e => e.elim h2 (fun e => by omega))).trans (HB5.out.block k h1)))
          have h2' : ∀ k, k < w2.heap.size → k ≠ ob → k ≠ bm → k ≠ g → w9.heap[k]? = w2.heap[k]? := fun k h1 h2 h3 h5 => (h4 k (by omega) h3 h5).trans (HKE.out.2 k h1 h2)
          have hbel : Below W.heap.size W w9 := by rw [hw9]; exact (HBR.out.trans (HB7.out.mono HBR.out.size)).setCell (p := ⟨g, 6, none⟩) GE.out.1 _
          rw [← hw9]
          have hgc : w9.heap[g]? = some (.cells #[.slice (some ⟨sb, 0, none⟩) n n, .slice (some ⟨ob, 0, none⟩) n n, .slice pq.1 np pq.2, .map (some bm), .bool fs, .int .i64 fl, .slice A7 S.surv.length c7, .bool fd] 81 (0, 0)) := by rw [hw9]; exact blk_put HG7.out 6 _ (by rfl)
          have hsl := blk_lt FS2.out
          have hdev := cloneAt (W := W) (w := w9) (L' := ⟨g, sb, ob, bm⟩) (vs := vs') (pv := .slice pq.1 np pq.2) (uv := .slice A7 S.surv.length c7) (m2 := m2) (S := S) w2.heap.size HB3.out.size hsl
            (by obtain ⟨e1, e2, e3, e4, e5, e6, e7, e8⟩ := EQS.out; unfold gcells; rw [← e1, ← e4, ← e5, ← e6]; exact hgc)
            ((h2' sb hsl (blk_ne FS2.out FO3.out (by decide)) (fun e => BS.out e.symm) (blk_ne FS2.out FG3.out (by decide))).trans FS2.out)
            ((h4 ob (blk_lt HXO.out) (fun e => BO.out e.symm) (fun e => GGO.out e.symm)).trans HXO.out)
            (by have := HVL.out; have := EQS.out.2.2.2.2.2.2.2; omega)
            (fun i v x a b => Kd.R_step (HRW.out i v x (by have h1 := (List.getElem?_eq_some_iff.1 a).1; have := HVL.out; omega) a b) (fun k hk hlt => h4 k hlt (by omega) (by omega)))
            (by
              rw [← EQS.out.2.2.2.2.2.2.1]
              refine Kd.R_mono (Kd.R_step (Kd.R_bound FP3.out) (fun k hk hlt => ?_)) (fun k hk => hk.1)
              obtain ⟨_, _, _, q, hq, cells, hc⟩ := hk
              have : q = 84 := by simpa [k99, Kd.iso, Kd.pair, Kd.int, Kd.string, Kd.scalar] using hq
              subst this
              exact h2' k hlt (blk_ne hc FO3.out (by decide)) (fun e => by rw [e, FM3.out] at hc; cases hc) (blk_ne hc FG3.out (by decide)))
            ((HM.out.move (HB7.out.block bm HM.out.lt)).move (hfar bm BG.out))
            (fun a => by
              rw [HLK.out a, ← (HSRC.out W (Below.refl _ _)).hl a]
              by_cases hka : a ∈ keys m
              · rw [HLF.out a hka]; rfl
              · rw [look_none a m hka]; split <;> rfl)
            (Kd.R_step (Kd.R_mono (Kd.R_lower HR7.out (by omega)) (fun k hk => by show w2.heap.size ≤ k; omega)) (fun k hk _ => hfar k (by omega)))
            GE.out.1 GE.out.2.1 GE.out.2.2.1 GE.out.2.2.2
          exact ⟨⟨g, sb, ob, bm⟩, rfl, hdev, hbel⟩
        · have hB6 : Below W.heap.size W w6 := HBR.out.grown hg6 HBR.out.size (fun j hj => by cases hj; have h1 := HIT.out; have h2 := HBW.out.size; omega)
          have hit2 : it ≠ bm := fun e => by have h1 := HIT.out; have h2 := HKE.out.1; have h3 := BL.out; omega
          have hig : g ≠ it := fun e => by have h1 := HIT.out; have h2 := HKE.out.1; have h3 := GL.out; omega
          have hmb : MapIs w6 bm m2 := HM.out.move (hg6.block bm HM.out.lt (fun e => hit2 (Option.some.inj e).symm))
          obtain ⟨w7, hup, hm7, hg7⟩ := hmb.run_update Try.underlying77 x c
          have hup : (Instr.mapUpdate 77 (.map (some bm)) (.int .i64 x) (.int .i64 c)).run Try.prog w6 = .ok () w7 := hup
          have hnx : (Instr.next (.pointer (some ⟨it, 0, none⟩)) false 0).run Try.prog wr = .ok (.tuple #[.bool true, .int .i64 x, .int .i64 c]) w6 := hnx
          have hen : (Instr.entry (.pointer (some ⟨it, 0, none⟩))).run Try.prog w6 = .ok (.tuple #[.int .i64 x, .int .i64 c]) w6 := hen
          have q3 : w6.cell? ⟨g, 3, none⟩ = some (.map (some bm)) := by
            have h1 : w6.heap[g]? = _ := (hg6.block g (blk_lt HGR.out) (fun e => hig (Option.some.inj e))).trans HGR.out
            rw [blk_cell h1]; rfl
          have HR6 := Aside0.mk hR6
          have HG6 := Aside0.mk hg6
          have HG7 := Aside0.mk hg7
          have HM7 := Aside0.mk hm7
          have HLX := Aside0.mk hlx
          have HB6 := Aside0.mk hB6
          have HLT := Aside0.mk hlt
          clear hR6 hg6 hg7 hm7 hlx hB6 hmb hit2 hig hs6 hlt
          go_wp2_with fail
          go_roundg n'
          case measure => have := HLT.out; omega
          case rel =>
            have hl1 := (HSRC.out _ HBR.out).hm.lt
            have hne1 : some L.bm ≠ some bm := fun e => by have h1 := LB.out; have h2 := GE.out.2.2.2; have h3 := Option.some.inj e; omega
            have hni : it ≠ bm := fun e => by have h1 := HIT.out; have h2 := HKE.out.1; have h3 := BL.out; omega
            refine ⟨_, n', upd x c m2, Nat.le_refl _, ⟨HR6.out.move (HG7.out.block _ HR6.out.isMap.lt hne1) (HG7.out.block it ?_ (fun e => hni (Option.some.inj e)))⟩, HM7, ⟨fun a => ?_⟩, ⟨?_⟩, ⟨?_⟩⟩
            · obtain ⟨_, _, _, hI⟩ := HR6.out.iter
              exact blk_lt hI
            · show look a (upd x c m2) = if (lf a && !decide (a = x)) = true then none else look a m
              rw [look_upd]
              by_cases e : a = x
              · rw [if_pos e, if_neg (by simp [e]), e, HLX.out]
              · rw [if_neg e, HLK.out a]
                simp [e]
            · exact Kept.of_grown HG7.out (Kept.of_grown HG6.out HK5.out (fun k hk => by cases hk; exact Or.inl (Or.inr rfl))) (fun k hk => by cases hk; exact Or.inl (Or.inl rfl))
            · exact HB6.out.grown HG7.out HB6.out.size (fun j hj => by cases hj; exact GE.out.2.2.2)

end Go.Proofs.Ytflajmgichdhhaa.PG

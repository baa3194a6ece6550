/- The walks and plain facts behind the row of DeviceClones: part 4 of 4. -/
import Derived.Test.YtflajmgichdhhaaCl2
import Derived.Test.YtflajmgichdhhaaWFour
namespace Go.Proofs.Ytflajmgichdhhaa.PG
open Go.RowKit Go.Proofs.YtflajmgichdhhaaW.PrintWords Go.Proofs.YtflajmgichdhhaaW.PrintLast Go.Proofs.YtflajmgichdhhaaW.PrintMore
set_option linter.unusedVariables false
set_option linter.unusedSimpArgs false
def ClonePost (S : DevS) (W : World) (e : Ending) (W' : World) : Prop := ∃ L' : Lay, e = .returned (.pointer (some ⟨L'.g, 0, none⟩)) ∧ DevIs W' W.heap.size L' (fun k => W.heap.size ≤ k ∧ k < W'.heap.size) S ∧ Below W.heap.size W W'
theorem copy_strs (w : World) (a b n : Nat) (l0 l : List ByteArray) (ha : w.heap[a]? = some (.cells (strs l0) 9 (0, 0))) (hb : w.heap[b]? = some (.cells (strs l) 9 (0, 0))) (h0 : l0.length = n) (h1 : l.length = n) :
  ∃ w', (∀ ty, (Builtin.copy_ #[26, 26] ty #[.slice (some ⟨a, 0, none⟩) n n, .slice (some ⟨b, 0, none⟩) n n]).run Try.prog w = .ok (.int .i64 (n : Int)) w') ∧ w'.heap[a]? = some (.cells (strs l) 9 (0, 0)) ∧ w.grownBy w' (some a) := by
 have hs0 : (strs l0).size = n := by unfold strs; simp [h0]
 have hvl : (l.map Value.string).length = n := by simp [h1]
 have hr := fun ty => run_copy_cells (P := Try.prog) w 26 26 ty 9 a 0 n n ⟨b, 0, none⟩ n n (l.map Value.string) Try.underlying26 (by kernel_rfl) (by rw [hvl]; exact (Nat.min_self n).symm)
  (fun j v hj => by
   have : w.cell? ⟨b, j, none⟩ = some v := by
    rw [blk_cell hb, strs_get, ← List.getElem?_map]; exact hj
   have e : Addr.add ⟨b, 0, none⟩ j = ⟨b, j, none⟩ := by simp [Addr.add]; intro hz; exact hz.symm
   rw [e]; exact this)
  (fun j hj => by rw [blk_cell ha]; simp; omega) (fun j _ => blk_frozen ha _) (fun v hv => by obtain ⟨x, _, rfl⟩ := List.mem_map.1 hv; rfl)
 obtain ⟨cur', q1, q2, q3⟩ := setCells_row (l.map Value.string) 0 w (strs l0) ha (by omega)
 obtain ⟨s1, s2, s3, s4⟩ := setCells_same a (l.map Value.string) 0 w
 refine ⟨w.setCells a 0 (l.map Value.string), fun ty => ?_, ?_, ⟨s1, s2, s3, by rw [s4]; exact Nat.le_refl _, fun k _ hk => setCells_far _ _ k (fun he => hk (by rw [he]))⟩⟩
 ·have := hr ty
  rw [hvl] at this
  exact this
 ·rw [q1]
  have : cur' = strs l := by
   apply Array.toList_inj.1
   rw [q3, List.take_zero, List.nil_append, Nat.zero_add, hvl, List.drop_of_length_le (by rw [Array.length_toList, hs0]; exact Nat.le_refl _), List.append_nil]
   rfl
  rw [this]
theorem cloneAt {W w : World} {L' : Lay} {vs : List Value} {pv uv : Value} {m2 : Ents} {S : DevS} (b0 : Nat) (hb0 : W.heap.size ≤ b0) (hsb0 : L'.sb < b0)
  (hg : w.heap[L'.g]? = some (.cells (gcells L' pv uv S) 81 (0, 0))) (hs : w.heap[L'.sb]? = some (.cells (strs S.stable) 9 (0, 0))) (ho : w.heap[L'.ob]? = some (.cells vs.toArray 26 (0, 0))) (hvl : vs.length = S.old.length)
  (hv : ∀ (i : Nat) (v : Value) (x : List ByteArray), vs[i]? = some v → S.old[i]? = some x → Kd.R Kd.string 9 w b0 (fun k => b0 ≤ k) v x)
  (hp : Kd.R k99 84 w W.heap.size (fun k => W.heap.size ≤ k) pv S.pend) (hm : MapIs w L'.bm m2) (hl : ∀ a, look a m2 = S.fences a) (hu : Kd.R (Kd.int .i64) 3 w b0 (fun k => b0 ≤ k) uv S.surv)
  (h1 : W.heap.size ≤ L'.g) (h2 : W.heap.size ≤ L'.sb) (h3 : W.heap.size ≤ L'.ob) (h4 : W.heap.size ≤ L'.bm) :
  DevIs w W.heap.size L' (fun k => W.heap.size ≤ k ∧ k < w.heap.size) S := by
 obtain ⟨inner, hown⟩ := Kd.R_own hp
 have hpt : ∀ k, some k = pv.ownBlock → ∃ cells, w.heap[k]? = some (.cells cells 84 (0, 0)) := fun k hk => own_typed hown k hk.symm
 have hfr : ∀ (k q : Nat), b0 ≤ k → k < w.heap.size → (∃ cells, w.heap[k]? = some (.cells cells q (0, 0))) → q ≠ 81 → q ≠ 26 → q ≠ 84 → Fr L' pv (fun k => W.heap.size ≤ k ∧ k < w.heap.size) k := by
  rintro k q hk hlt ⟨cells, hc⟩ q1 q2 q3
  refine ⟨⟨by omega, hlt⟩, ?_⟩
  rintro (e | e | e | e | e)
  ·exact blk_ne hc hg q1 e
  ·omega
  ·exact blk_ne hc ho q2 e
  ·exact hm.ne hc e
  ·obtain ⟨cells', hc'⟩ := hpt k e
   exact blk_ne hc hc' q3 rfl
 refine ⟨vs, pv, uv, m2, { hg := hg, hs := hs, ho := ho, hvl := hvl, hv := fun i v x a b => ?_, hp := ?_, hm := hm, hl := hl, hu := ?_, hF := ⟨⟨h1, blk_lt hg⟩, ⟨h2, blk_lt hs⟩, ⟨h3, blk_lt ho⟩, ⟨h4, hm.lt⟩⟩, hr := fun k hk => hk }⟩
 ·refine Kd.V_mono (Kd.R_V (base' := 0) (Kd.R_bound (hv i v x a b))) (fun k hk => ?_)
  obtain ⟨k1, k2, k3, q, hq, hc⟩ := hk
  have : q = 9 := by simpa [Kd.string, Kd.scalar] using hq
  subst this
  exact hfr k 9 k1 k3 hc (by decide) (by decide) (by decide)
 ·exact Kd.R_mono (Kd.R_bound hp) (fun k hk => ⟨hk.1, hk.2.2.1⟩)
 ·refine Kd.V_mono (Kd.R_V (base' := 0) (Kd.R_bound hu)) (fun k hk => ?_)
  obtain ⟨k1, k2, k3, q, hq, hc⟩ := hk
  have : q = 3 := by simpa [Kd.int, Kd.scalar] using hq
  subst this
  exact hfr k 3 k1 k3 hc (by decide) (by decide) (by decide)
set_option maxRecDepth 100000 in
set_option maxHeartbeats 8000000 in
theorem clone_calls {W : World} {B : Nat} {L : Lay} {F : Nat → Prop} {S : DevS} {k : Nat} (hD : DevIs W B L F S) (hF : Fine k S) (hk : k ≤ 1000000) (hsl : S.surv.length ≤ 1000000) :
  Calls Try.prog 16 #[.pointer (some ⟨L.g, 0, none⟩)] W fun e W' => ClonePost S W e W' := by
 obtain ⟨vs, pv, uv, m, hP⟩ := hD
 have hpl : S.pend.length ≤ 1000000 := Nat.le_trans hF.plen hk
 have HPL := Aside0.mk hpl
 have HSL := Aside0.mk hsl
 have HFI := Aside0.mk hF
 have hn1 := hF.n1
 have hol := hF.len
 obtain ⟨Ap, cp, hpv, hpc, hpC⟩ := hP.pslice
 obtain ⟨Au, cu, huv, huc, huF⟩ := hP.hu
 subst hpv huv
 have HSRC := Aside0.mk (fun (w : World) (hb : Below W.heap.size W w) => hP.below hb)
 have hcl : ∀ w, Below W.heap.size W w → Calls Try.prog 44 #[.slice Ap S.pend.length cp] w fun e w' => ∃ A c, e = .returned (.slice A S.pend.length c) ∧ Kd.R k99 84 w' W.heap.size (fun k => W.heap.size ≤ k) (.slice A S.pend.length c) S.pend ∧ Below w.heap.size w w' := fun w hb => by
  refine (clone44 w Ap cp S.pend (Kd.C_below hpC hb) hpl).mono ?_
  rintro e w' ⟨v, rfl, hR, hb2⟩
  obtain ⟨A, c, rfl⟩ := Kd.R_slice hR
  exact ⟨A, c, rfl, Kd.R_mono (Kd.R_lower hR hb.size) (fun k hk => Nat.le_trans hb.size hk), hb2⟩
 have HUC := Aside0.mk (Kd.F_now huF)
 have HLG := Aside0.mk hP.lg
 have c0 := hP.c0
 have c1 := hP.c1
 have c2 := hP.c2
 have c4 := hP.c4
 have c5 := hP.c5
 have c6 := hP.c6
 have c7 := hP.c7
 have HSTL := Aside0.mk (show S.stable.length = S.stable.length from rfl)
 clear hP hF hpl hsl hpc hpC huc huF hk
 obtain ⟨n, hn⟩ : ∃ n, n = S.stable.length := ⟨_, rfl⟩
 obtain ⟨np, hnp⟩ : ∃ np, np = S.pend.length := ⟨_, rfl⟩
 obtain ⟨nu, hnu⟩ : ∃ nu, nu = S.surv.length := ⟨_, rfl⟩
 obtain ⟨fs, hfs⟩ : ∃ fs, fs = S.fset := ⟨_, rfl⟩
 obtain ⟨fl, hfl⟩ : ∃ fl, fl = S.left := ⟨_, rfl⟩
 obtain ⟨fd, hfd⟩ : ∃ fd, fd = S.failed := ⟨_, rfl⟩
 obtain ⟨xs, hxs⟩ : ∃ xs, xs = S.pend := ⟨_, rfl⟩
 rw [← hn] at c0 c1 hn1
 rw [← hnp] at c2 hcl
 rw [← hxs] at hcl
 rw [← hnu] at c6
 rw [← hfs] at c4
 rw [← hfl] at c5
 rw [← hfd] at c7
 have HCL := Aside0.mk hcl
 have EQS := Aside0.mk (show n = S.stable.length ∧ np = S.pend.length ∧ nu = S.surv.length ∧ fs = S.fset ∧ fl = S.left ∧ fd = S.failed ∧ xs = S.pend ∧ S.old.length = n from ⟨hn, hnp, hnu, hfs, hfl, hfd, hxs, by omega⟩)
 clear hcl hn hnp hnu hfs hfl hfd hxs hol
 have hm1 := print_make_int (P := Try.prog) 26 9 (.string ⟨#[]⟩) 16 Try.underlying26 info9 rfl (by decide) (n : Int) (by omega) (by rw [Int.toNat_natCast]; omega)
 have hm2 := print_make_int (P := Try.prog) 27 26 (.slice none 0 0) 24 Try.underlying27 info26 rfl (by decide) (n : Int) (by omega) (by rw [Int.toNat_natCast]; omega)
 rw [Int.toNat_natCast] at hm1 hm2
 have hk := makeMap77
 rw [made_strs] at hm1
 rw [made_nils] at hm2
 go_enter Try.func16, Try.ntmps16
 go_wp2_with fail
 have HBe := Aside0.mk (show Below W.heap.size W W.drew from (Below.refl _ _).drew)
 refine start_ (n := 29) (S := fun w' => w'.cell? ⟨L.g, 0, none⟩ = some (.slice (some ⟨L.sb, 0, none⟩) n n) ∧ w'.cell? ⟨L.g, 1, none⟩ = some (.slice (some ⟨L.ob, 0, none⟩) n n) ∧ w'.cell? ⟨L.g, 2, none⟩ = some (.slice Ap np cp) ∧ w'.cell? ⟨L.g, 4, none⟩ = some (.bool fs) ∧ w'.cell? ⟨L.g, 5, none⟩ = some (.int .i64 fl) ∧ w'.cell? ⟨L.g, 6, none⟩ = some (.slice Au nu cu) ∧ w'.cell? ⟨L.g, 7, none⟩ = some (.bool fd)) (ds := []) #[false, false, false, false, false, false, false, false, false, false, false, false, false, false, false, false, false, false, false, false, false, false, false, false, false, false, false, false, false] (by kernel_rfl) rfl rfl ⟨c0, c1, c2, c4, c5, c6, c7⟩ (fun hHeld => ?_)
 refine pure_ (i := 0) (N := some 7) (v := ?_) (a' := ?_) #[true, false, false, false, false, false, false, false, false, false, false, false, false, false, false, false, false, false, false, false, false, false, false, false, false, false, false, false, false] rfl rfl (by kernel_rfl) (fun _ _ _ h => h) (Or.inl ⟨by rfl, ?_⟩) ?_ ?_
 rotate_left
 ·intro w'
  go_simp
  with_reducible rfl
 rotate_left
 ·simp only [Act.put, List.setIfInBounds_toArray, List.set_cons_zero, List.set_cons_succ, i64_w, i32_w]
  rfl
 refine pure_ (i := 1) (N := some 8) (v := ?_) (a' := ?_) #[true, true, false, false, false, false, false, false, false, false, false, false, false, false, false, false, false, false, false, false, false, false, false, false, false, false, false, false, false] rfl rfl (by kernel_rfl) (fun _ _ _ h => h) (Or.inl ⟨by rfl, ?_⟩) ?_ ?_
 rotate_left
 ·intro w'
  go_simp
  with_reducible rfl
 rotate_left
 ·simp only [Act.put, List.setIfInBounds_toArray, List.set_cons_zero, List.set_cons_succ, i64_w, i32_w]
  rfl
 refine pure_ (i := 2) (N := some 9) (v := ?_) (a' := ?_) #[true, true, true, false, false, false, false, false, false, false, false, false, false, false, false, false, false, false, false, false, false, false, false, false, false, false, false, false, false] rfl rfl (by kernel_rfl) (fun _ _ _ h => h) (Or.inl ⟨by rfl, ?_⟩) ?_ ?_
 rotate_left
 ·intro w'
  go_simp
  with_reducible rfl
 rotate_left
 ·simp only [Act.put, List.setIfInBounds_toArray, List.set_cons_zero, List.set_cons_succ, i64_w, i32_w]
  rfl
 refine pure_ (i := 6) (N := some 13) (v := ?_) (a' := ?_) #[true, true, true, false, false, false, true, false, false, false, false, false, false, false, false, false, false, false, false, false, false, false, false, false, false, false, false, false, false] rfl rfl (by kernel_rfl) (fun _ _ _ h => h) (Or.inl ⟨by rfl, ?_⟩) ?_ ?_
 rotate_left
 ·intro w'
  go_simp
  with_reducible rfl
 rotate_left
 ·simp only [Act.put, List.setIfInBounds_toArray, List.set_cons_zero, List.set_cons_succ, i64_w, i32_w]
  rfl
 refine pure_ (i := 7) (N := some 14) (v := ?_) (a' := ?_) #[true, true, true, false, false, false, true, true, false, false, false, false, false, false, false, false, false, false, false, false, false, false, false, false, false, false, false, false, false] rfl rfl (by kernel_rfl) (fun _ _ _ h => h) (Or.inl ⟨by rfl, ?_⟩) ?_ ?_
 rotate_left
 ·intro w'
  go_simp
  with_reducible rfl
 rotate_left
 ·simp only [Act.put, List.setIfInBounds_toArray, List.set_cons_zero, List.set_cons_succ, i64_w, i32_w]
  rfl
 refine pure_ (i := 8) (N := some 15) (v := ?_) (a' := ?_) #[true, true, true, false, false, false, true, true, true, false, false, false, false, false, false, false, false, false, false, false, false, false, false, false, false, false, false, false, false] rfl rfl (by kernel_rfl) (fun _ _ _ h => h) (Or.inl ⟨by rfl, ?_⟩) ?_ ?_
 rotate_left
 ·intro w'
  go_simp
  with_reducible rfl
 rotate_left
 ·simp only [Act.put, List.setIfInBounds_toArray, List.set_cons_zero, List.set_cons_succ, i64_w, i32_w]
  rfl
 refine pure_ (i := 12) (N := some 19) (v := ?_) (a' := ?_) #[true, true, true, false, false, false, true, true, true, false, false, false, true, false, false, false, false, false, false, false, false, false, false, false, false, false, false, false, false] rfl rfl (by kernel_rfl) (fun _ _ _ h => h) (Or.inl ⟨by rfl, ?_⟩) ?_ ?_
 rotate_left
 ·intro w'
  go_simp
  with_reducible rfl
 rotate_left
 ·simp only [Act.put, List.setIfInBounds_toArray, List.set_cons_zero, List.set_cons_succ, i64_w, i32_w]
  rfl
 refine pure_ (i := 13) (N := some 20) (v := ?_) (a' := ?_) #[true, true, true, false, false, false, true, true, true, false, false, false, true, true, false, false, false, false, false, false, false, false, false, false, false, false, false, false, false] rfl rfl (by kernel_rfl) (fun _ _ _ h => h) (Or.inl ⟨by rfl, ?_⟩) ?_ ?_
 rotate_left
 ·intro w'
  go_simp
  with_reducible rfl
 rotate_left
 ·simp only [Act.put, List.setIfInBounds_toArray, List.set_cons_zero, List.set_cons_succ, i64_w, i32_w]
  rfl
 refine pure_ (i := 14) (N := some 21) (v := ?_) (a' := ?_) #[true, true, true, false, false, false, true, true, true, false, false, false, true, true, true, false, false, false, false, false, false, false, false, false, false, false, false, false, false] rfl rfl (by kernel_rfl) (fun _ _ _ h => h) (Or.inl ⟨by rfl, ?_⟩) ?_ ?_
 rotate_left
 ·intro w'
  go_simp
  with_reducible rfl
 rotate_left
 ·simp only [Act.put, List.setIfInBounds_toArray, List.set_cons_zero, List.set_cons_succ, i64_w, i32_w]
  rfl
 refine pure_ (i := 18) (N := some 25) (v := ?_) (a' := ?_) #[true, true, true, false, false, false, true, true, true, false, false, false, true, true, true, false, false, false, true, false, false, false, false, false, false, false, false, false, false] rfl rfl (by kernel_rfl) (fun _ _ _ h => h) (Or.inl ⟨by rfl, ?_⟩) ?_ ?_
 rotate_left
 ·intro w'
  go_simp
  with_reducible rfl
 rotate_left
 ·simp only [Act.put, List.setIfInBounds_toArray, List.set_cons_zero, List.set_cons_succ, i64_w, i32_w]
  rfl
 refine pure_ (i := 19) (N := some 26) (v := ?_) (a' := ?_) #[true, true, true, false, false, false, true, true, true, false, false, false, true, true, true, false, false, false, true, true, false, false, false, false, false, false, false, false, false] rfl rfl (by kernel_rfl) (fun _ _ _ h => h) (Or.inl ⟨by rfl, ?_⟩) ?_ ?_
 rotate_left
 ·intro w'
  go_simp
  with_reducible rfl
 rotate_left
 ·simp only [Act.put, List.setIfInBounds_toArray, List.set_cons_zero, List.set_cons_succ, i64_w, i32_w]
  rfl
 refine pure_ (i := 20) (N := some 27) (v := ?_) (a' := ?_) #[true, true, true, false, false, false, true, true, true, false, false, false, true, true, true, false, false, false, true, true, true, false, false, false, false, false, false, false, false] rfl rfl (by kernel_rfl) (fun _ _ _ h => h) (Or.inl ⟨by rfl, ?_⟩) ?_ ?_
 rotate_left
 ·intro w'
  go_simp
  with_reducible rfl
 rotate_left
 ·simp only [Act.put, List.setIfInBounds_toArray, List.set_cons_zero, List.set_cons_succ, i64_w, i32_w]
  rfl
 refine pure_ (i := 22) (N := some 29) (v := ?_) (a' := ?_) #[true, true, true, false, false, false, true, true, true, false, false, false, true, true, true, false, false, false, true, true, true, false, true, false, false, false, false, false, false] rfl rfl (by kernel_rfl) (fun _ _ _ h => h) (Or.inl ⟨by rfl, ?_⟩) ?_ ?_
 rotate_left
 ·intro w'
  go_simp
  with_reducible rfl
 rotate_left
 ·simp only [Act.put, List.setIfInBounds_toArray, List.set_cons_zero, List.set_cons_succ, i64_w, i32_w]
  rfl
 refine pure_ (i := 23) (N := some 30) (v := ?_) (a' := ?_) #[true, true, true, false, false, false, true, true, true, false, false, false, true, true, true, false, false, false, true, true, true, false, true, true, false, false, false, false, false] rfl rfl (by kernel_rfl) (fun _ _ _ h => h) (Or.inl ⟨by rfl, ?_⟩) ?_ ?_
 rotate_left
 ·intro w'
  go_simp
  with_reducible rfl
 rotate_left
 ·simp only [Act.put, List.setIfInBounds_toArray, List.set_cons_zero, List.set_cons_succ, i64_w, i32_w]
  rfl
 refine pure_ (i := 24) (N := some 31) (v := ?_) (a' := ?_) #[true, true, true, false, false, false, true, true, true, false, false, false, true, true, true, false, false, false, true, true, true, false, true, true, true, false, false, false, false] rfl rfl (by kernel_rfl) (fun _ _ _ h => h) (Or.inl ⟨by rfl, ?_⟩) ?_ ?_
 rotate_left
 ·intro w'
  go_simp
  with_reducible rfl
 rotate_left
 ·simp only [Act.put, List.setIfInBounds_toArray, List.set_cons_zero, List.set_cons_succ, i64_w, i32_w]
  rfl
 refine take_ (i := 3) (N := some 10) (v := ?_) (a' := ?_) #[true, true, true, true, false, false, true, true, true, false, false, false, true, true, true, false, false, false, true, true, true, false, true, true, true, false, false, false, false] rfl rfl (by kernel_rfl) (fun _ _ _ h => h) (Or.inl ⟨by rfl, ?_⟩) hHeld ?_ ?_
 rotate_left
 ·rintro w' ⟨s0, s1, s2, s3, s4, s5, s6⟩
  go_simp
  with_reducible rfl
 rotate_left
 ·simp only [Act.put, List.setIfInBounds_toArray, List.set_cons_zero, List.set_cons_succ, i64_w, i32_w]
  rfl
 refine pure_ (i := 4) (N := some 11) (v := ?_) (a' := ?_) #[true, true, true, true, true, false, true, true, true, false, false, false, true, true, true, false, false, false, true, true, true, false, true, true, true, false, false, false, false] rfl rfl (by kernel_rfl) (fun _ _ _ h => h) (Or.inl ⟨by rfl, ?_⟩) ?_ ?_
 rotate_left
 ·intro w'
  go_simp
  with_reducible rfl
 rotate_left
 ·simp only [Act.put, List.setIfInBounds_toArray, List.set_cons_zero, List.set_cons_succ, i64_w, i32_w]
  rfl
 refine take_ (i := 9) (N := some 16) (v := ?_) (a' := ?_) #[true, true, true, true, true, false, true, true, true, true, false, false, true, true, true, false, false, false, true, true, true, false, true, true, true, false, false, false, false] rfl rfl (by kernel_rfl) (fun _ _ _ h => h) (Or.inl ⟨by rfl, ?_⟩) hHeld ?_ ?_
 rotate_left
 ·rintro w' ⟨s0, s1, s2, s3, s4, s5, s6⟩
  go_simp
  with_reducible rfl
 rotate_left
 ·simp only [Act.put, List.setIfInBounds_toArray, List.set_cons_zero, List.set_cons_succ, i64_w, i32_w]
  rfl
 refine pure_ (i := 10) (N := some 17) (v := ?_) (a' := ?_) #[true, true, true, true, true, false, true, true, true, true, true, false, true, true, true, false, false, false, true, true, true, false, true, true, true, false, false, false, false] rfl rfl (by kernel_rfl) (fun _ _ _ h => h) (Or.inl ⟨by rfl, ?_⟩) ?_ ?_
 rotate_left
 ·intro w'
  go_simp
  with_reducible rfl
 rotate_left
 ·simp only [Act.put, List.setIfInBounds_toArray, List.set_cons_zero, List.set_cons_succ, i64_w, i32_w]
  rfl
 refine take_ (i := 15) (N := some 22) (v := ?_) (a' := ?_) #[true, true, true, true, true, false, true, true, true, true, true, false, true, true, true, true, false, false, true, true, true, false, true, true, true, false, false, false, false] rfl rfl (by kernel_rfl) (fun _ _ _ h => h) (Or.inl ⟨by rfl, ?_⟩) hHeld ?_ ?_
 rotate_left
 ·rintro w' ⟨s0, s1, s2, s3, s4, s5, s6⟩
  go_simp
  with_reducible rfl
 rotate_left
 ·simp only [Act.put, List.setIfInBounds_toArray, List.set_cons_zero, List.set_cons_succ, i64_w, i32_w]
  rfl
 refine take_ (i := 21) (N := some 28) (v := ?_) (a' := ?_) #[true, true, true, true, true, false, true, true, true, true, true, false, true, true, true, true, false, false, true, true, true, true, true, true, true, false, false, false, false] rfl rfl (by kernel_rfl) (fun _ _ _ h => h) (Or.inl ⟨by rfl, ?_⟩) hHeld ?_ ?_
 rotate_left
 ·rintro w' ⟨s0, s1, s2, s3, s4, s5, s6⟩
  go_simp
  with_reducible rfl
 rotate_left
 ·simp only [Act.put, List.setIfInBounds_toArray, List.set_cons_zero, List.set_cons_succ, i64_w, i32_w]
  rfl
 refine take_ (i := 25) (N := some 32) (v := ?_) (a' := ?_) #[true, true, true, true, true, false, true, true, true, true, true, false, true, true, true, true, false, false, true, true, true, true, true, true, true, true, false, false, false] rfl rfl (by kernel_rfl) (fun _ _ _ h => h) (Or.inl ⟨by rfl, ?_⟩) hHeld ?_ ?_
 rotate_left
 ·rintro w' ⟨s0, s1, s2, s3, s4, s5, s6⟩
  go_simp
  with_reducible rfl
 rotate_left
 ·simp only [Act.put, List.setIfInBounds_toArray, List.set_cons_zero, List.set_cons_succ, i64_w, i32_w]
  rfl
 refine join_ (σ := Nat × Nat × (Option Addr × Nat) × Nat) 3 #[true, true, true, true, true, true, true, true, true, true, true, true, true, true, true, true, true, true, true, true, true, true, true, true, true, true, false, false, false] (fun s_ => [(12, .slice (some ⟨s_.1, 0, none⟩) n n), (18, .slice (some ⟨s_.2.1, 0, none⟩) n n), (23, .slice s_.2.2.1.1 np s_.2.2.1.2), (24, .map (some s_.2.2.2))]) (fun s_ w' => (w'.cell? ⟨L.g, 0, none⟩ = some (.slice (some ⟨L.sb, 0, none⟩) n n) ∧ w'.cell? ⟨L.g, 1, none⟩ = some (.slice (some ⟨L.ob, 0, none⟩) n n) ∧ w'.cell? ⟨L.g, 2, none⟩ = some (.slice Ap np cp) ∧ w'.cell? ⟨L.g, 4, none⟩ = some (.bool fs) ∧ w'.cell? ⟨L.g, 5, none⟩ = some (.int .i64 fl) ∧ w'.cell? ⟨L.g, 6, none⟩ = some (.slice Au nu cu) ∧ w'.cell? ⟨L.g, 7, none⟩ = some (.bool fd)) ∧ Aside0 (Below W.heap.size W w') ∧ Aside0 (w'.heap[s_.1]? = some (.cells (strs (List.replicate n ⟨#[]⟩)) 9 (0, 0)) ∧ W.heap.size ≤ s_.1) ∧ Aside0 (w'.heap[s_.2.1]? = some (.cells (nils n) 26 (0, 0)) ∧ W.heap.size ≤ s_.2.1) ∧ Aside0 (Kd.R k99 84 w' W.heap.size (fun k => W.heap.size ≤ k) (.slice s_.2.2.1.1 np s_.2.2.1.2) xs) ∧ Aside0 (w'.heap[s_.2.2.2]? = some (.map #[] 0) ∧ W.heap.size ≤ s_.2.2.2)) ?_ ?_
 rotate_left
 ·intro hJ5_11_16_17
  refine join_ (σ := Nat × Nat × (Option Addr × Nat)) 4 #[true, true, true, true, true, true, true, true, true, true, true, true, true, true, true, true, true, false, true, true, true, true, true, true, true, true, false, false, false] (fun s_ => [(12, .slice (some ⟨s_.1, 0, none⟩) n n), (18, .slice (some ⟨s_.2.1, 0, none⟩) n n), (23, .slice s_.2.2.1 np s_.2.2.2)]) (fun s_ w' => (w'.cell? ⟨L.g, 0, none⟩ = some (.slice (some ⟨L.sb, 0, none⟩) n n) ∧ w'.cell? ⟨L.g, 1, none⟩ = some (.slice (some ⟨L.ob, 0, none⟩) n n) ∧ w'.cell? ⟨L.g, 2, none⟩ = some (.slice Ap np cp) ∧ w'.cell? ⟨L.g, 4, none⟩ = some (.bool fs) ∧ w'.cell? ⟨L.g, 5, none⟩ = some (.int .i64 fl) ∧ w'.cell? ⟨L.g, 6, none⟩ = some (.slice Au nu cu) ∧ w'.cell? ⟨L.g, 7, none⟩ = some (.bool fd)) ∧ Aside0 (Below W.heap.size W w') ∧ Aside0 (w'.heap[s_.1]? = some (.cells (strs (List.replicate n ⟨#[]⟩)) 9 (0, 0)) ∧ W.heap.size ≤ s_.1) ∧ Aside0 (w'.heap[s_.2.1]? = some (.cells (nils n) 26 (0, 0)) ∧ W.heap.size ≤ s_.2.1) ∧ Aside0 (Kd.R k99 84 w' W.heap.size (fun k => W.heap.size ≤ k) (.slice s_.2.2.1 np s_.2.2.2) xs)) ?_ ?_
  rotate_left
  ·intro hJ5_11_16
   refine join_ (σ := Nat × Nat × Nat) 4 #[true, true, true, true, true, true, true, true, true, true, true, true, true, true, true, true, false, true, true, true, true, true, true, true, true, true, false, false, false] (fun s_ => [(12, .slice (some ⟨s_.1, 0, none⟩) n n), (18, .slice (some ⟨s_.2.1, 0, none⟩) n n), (24, .map (some s_.2.2))]) (fun s_ w' => (w'.cell? ⟨L.g, 0, none⟩ = some (.slice (some ⟨L.sb, 0, none⟩) n n) ∧ w'.cell? ⟨L.g, 1, none⟩ = some (.slice (some ⟨L.ob, 0, none⟩) n n) ∧ w'.cell? ⟨L.g, 2, none⟩ = some (.slice Ap np cp) ∧ w'.cell? ⟨L.g, 4, none⟩ = some (.bool fs) ∧ w'.cell? ⟨L.g, 5, none⟩ = some (.int .i64 fl) ∧ w'.cell? ⟨L.g, 6, none⟩ = some (.slice Au nu cu) ∧ w'.cell? ⟨L.g, 7, none⟩ = some (.bool fd)) ∧ Aside0 (Below W.heap.size W w') ∧ Aside0 (w'.heap[s_.1]? = some (.cells (strs (List.replicate n ⟨#[]⟩)) 9 (0, 0)) ∧ W.heap.size ≤ s_.1) ∧ Aside0 (w'.heap[s_.2.1]? = some (.cells (nils n) 26 (0, 0)) ∧ W.heap.size ≤ s_.2.1) ∧ Aside0 (w'.heap[s_.2.2]? = some (.map #[] 0) ∧ W.heap.size ≤ s_.2.2)) ?_ ?_
   rotate_left
   ·intro hJ5_11_17
    refine join_ (σ := Nat × (Option Addr × Nat) × Nat) 4 #[true, true, true, true, true, true, true, true, true, true, true, false, true, true, true, true, true, true, true, true, true, true, true, true, true, true, false, false, false] (fun s_ => [(12, .slice (some ⟨s_.1, 0, none⟩) n n), (23, .slice s_.2.1.1 np s_.2.1.2), (24, .map (some s_.2.2))]) (fun s_ w' => (w'.cell? ⟨L.g, 0, none⟩ = some (.slice (some ⟨L.sb, 0, none⟩) n n) ∧ w'.cell? ⟨L.g, 1, none⟩ = some (.slice (some ⟨L.ob, 0, none⟩) n n) ∧ w'.cell? ⟨L.g, 2, none⟩ = some (.slice Ap np cp) ∧ w'.cell? ⟨L.g, 4, none⟩ = some (.bool fs) ∧ w'.cell? ⟨L.g, 5, none⟩ = some (.int .i64 fl) ∧ w'.cell? ⟨L.g, 6, none⟩ = some (.slice Au nu cu) ∧ w'.cell? ⟨L.g, 7, none⟩ = some (.bool fd)) ∧ Aside0 (Below W.heap.size W w') ∧ Aside0 (w'.heap[s_.1]? = some (.cells (strs (List.replicate n ⟨#[]⟩)) 9 (0, 0)) ∧ W.heap.size ≤ s_.1) ∧ Aside0 (Kd.R k99 84 w' W.heap.size (fun k => W.heap.size ≤ k) (.slice s_.2.1.1 np s_.2.1.2) xs) ∧ Aside0 (w'.heap[s_.2.2]? = some (.map #[] 0) ∧ W.heap.size ≤ s_.2.2)) ?_ ?_
    rotate_left
    ·intro hJ5_16_17
     refine join_ (σ := Nat × (Option Addr × Nat) × Nat) 4 #[true, true, true, true, true, false, true, true, true, true, true, true, true, true, true, true, true, true, true, true, true, true, true, true, true, true, false, false, false] (fun s_ => [(18, .slice (some ⟨s_.1, 0, none⟩) n n), (23, .slice s_.2.1.1 np s_.2.1.2), (24, .map (some s_.2.2))]) (fun s_ w' => (w'.cell? ⟨L.g, 0, none⟩ = some (.slice (some ⟨L.sb, 0, none⟩) n n) ∧ w'.cell? ⟨L.g, 1, none⟩ = some (.slice (some ⟨L.ob, 0, none⟩) n n) ∧ w'.cell? ⟨L.g, 2, none⟩ = some (.slice Ap np cp) ∧ w'.cell? ⟨L.g, 4, none⟩ = some (.bool fs) ∧ w'.cell? ⟨L.g, 5, none⟩ = some (.int .i64 fl) ∧ w'.cell? ⟨L.g, 6, none⟩ = some (.slice Au nu cu) ∧ w'.cell? ⟨L.g, 7, none⟩ = some (.bool fd)) ∧ Aside0 (Below W.heap.size W w') ∧ Aside0 (w'.heap[s_.1]? = some (.cells (nils n) 26 (0, 0)) ∧ W.heap.size ≤ s_.1) ∧ Aside0 (Kd.R k99 84 w' W.heap.size (fun k => W.heap.size ≤ k) (.slice s_.2.1.1 np s_.2.1.2) xs) ∧ Aside0 (w'.heap[s_.2.2]? = some (.map #[] 0) ∧ W.heap.size ≤ s_.2.2)) ?_ ?_
     rotate_left
     ·intro hJ11_16_17
      refine join_ (σ := Nat × Nat) 5 #[true, true, true, true, true, true, true, true, true, true, true, true, true, true, true, true, false, false, true, true, true, true, true, true, true, true, false, false, false] (fun s_ => [(12, .slice (some ⟨s_.1, 0, none⟩) n n), (18, .slice (some ⟨s_.2, 0, none⟩) n n)]) (fun s_ w' => (w'.cell? ⟨L.g, 0, none⟩ = some (.slice (some ⟨L.sb, 0, none⟩) n n) ∧ w'.cell? ⟨L.g, 1, none⟩ = some (.slice (some ⟨L.ob, 0, none⟩) n n) ∧ w'.cell? ⟨L.g, 2, none⟩ = some (.slice Ap np cp) ∧ w'.cell? ⟨L.g, 4, none⟩ = some (.bool fs) ∧ w'.cell? ⟨L.g, 5, none⟩ = some (.int .i64 fl) ∧ w'.cell? ⟨L.g, 6, none⟩ = some (.slice Au nu cu) ∧ w'.cell? ⟨L.g, 7, none⟩ = some (.bool fd)) ∧ Aside0 (Below W.heap.size W w') ∧ Aside0 (w'.heap[s_.1]? = some (.cells (strs (List.replicate n ⟨#[]⟩)) 9 (0, 0)) ∧ W.heap.size ≤ s_.1) ∧ Aside0 (w'.heap[s_.2]? = some (.cells (nils n) 26 (0, 0)) ∧ W.heap.size ≤ s_.2)) ?_ ?_
      rotate_left
      ·intro hJ5_11
       refine join_ (σ := Nat × (Option Addr × Nat)) 5 #[true, true, true, true, true, true, true, true, true, true, true, false, true, true, true, true, true, false, true, true, true, true, true, true, true, true, false, false, false] (fun s_ => [(12, .slice (some ⟨s_.1, 0, none⟩) n n), (23, .slice s_.2.1 np s_.2.2)]) (fun s_ w' => (w'.cell? ⟨L.g, 0, none⟩ = some (.slice (some ⟨L.sb, 0, none⟩) n n) ∧ w'.cell? ⟨L.g, 1, none⟩ = some (.slice (some ⟨L.ob, 0, none⟩) n n) ∧ w'.cell? ⟨L.g, 2, none⟩ = some (.slice Ap np cp) ∧ w'.cell? ⟨L.g, 4, none⟩ = some (.bool fs) ∧ w'.cell? ⟨L.g, 5, none⟩ = some (.int .i64 fl) ∧ w'.cell? ⟨L.g, 6, none⟩ = some (.slice Au nu cu) ∧ w'.cell? ⟨L.g, 7, none⟩ = some (.bool fd)) ∧ Aside0 (Below W.heap.size W w') ∧ Aside0 (w'.heap[s_.1]? = some (.cells (strs (List.replicate n ⟨#[]⟩)) 9 (0, 0)) ∧ W.heap.size ≤ s_.1) ∧ Aside0 (Kd.R k99 84 w' W.heap.size (fun k => W.heap.size ≤ k) (.slice s_.2.1 np s_.2.2) xs)) ?_ ?_
       rotate_left
       ·intro hJ5_16
        refine join_ (σ := Nat × Nat) 5 #[true, true, true, true, true, true, true, true, true, true, true, false, true, true, true, true, false, true, true, true, true, true, true, true, true, true, false, false, false] (fun s_ => [(12, .slice (some ⟨s_.1, 0, none⟩) n n), (24, .map (some s_.2))]) (fun s_ w' => (w'.cell? ⟨L.g, 0, none⟩ = some (.slice (some ⟨L.sb, 0, none⟩) n n) ∧ w'.cell? ⟨L.g, 1, none⟩ = some (.slice (some ⟨L.ob, 0, none⟩) n n) ∧ w'.cell? ⟨L.g, 2, none⟩ = some (.slice Ap np cp) ∧ w'.cell? ⟨L.g, 4, none⟩ = some (.bool fs) ∧ w'.cell? ⟨L.g, 5, none⟩ = some (.int .i64 fl) ∧ w'.cell? ⟨L.g, 6, none⟩ = some (.slice Au nu cu) ∧ w'.cell? ⟨L.g, 7, none⟩ = some (.bool fd)) ∧ Aside0 (Below W.heap.size W w') ∧ Aside0 (w'.heap[s_.1]? = some (.cells (strs (List.replicate n ⟨#[]⟩)) 9 (0, 0)) ∧ W.heap.size ≤ s_.1) ∧ Aside0 (w'.heap[s_.2]? = some (.map #[] 0) ∧ W.heap.size ≤ s_.2)) ?_ ?_
        rotate_left
        ·intro hJ5_17
         refine join_ (σ := Nat × (Option Addr × Nat)) 5 #[true, true, true, true, true, false, true, true, true, true, true, true, true, true, true, true, true, false, true, true, true, true, true, true, true, true, false, false, false] (fun s_ => [(18, .slice (some ⟨s_.1, 0, none⟩) n n), (23, .slice s_.2.1 np s_.2.2)]) (fun s_ w' => (w'.cell? ⟨L.g, 0, none⟩ = some (.slice (some ⟨L.sb, 0, none⟩) n n) ∧ w'.cell? ⟨L.g, 1, none⟩ = some (.slice (some ⟨L.ob, 0, none⟩) n n) ∧ w'.cell? ⟨L.g, 2, none⟩ = some (.slice Ap np cp) ∧ w'.cell? ⟨L.g, 4, none⟩ = some (.bool fs) ∧ w'.cell? ⟨L.g, 5, none⟩ = some (.int .i64 fl) ∧ w'.cell? ⟨L.g, 6, none⟩ = some (.slice Au nu cu) ∧ w'.cell? ⟨L.g, 7, none⟩ = some (.bool fd)) ∧ Aside0 (Below W.heap.size W w') ∧ Aside0 (w'.heap[s_.1]? = some (.cells (nils n) 26 (0, 0)) ∧ W.heap.size ≤ s_.1) ∧ Aside0 (Kd.R k99 84 w' W.heap.size (fun k => W.heap.size ≤ k) (.slice s_.2.1 np s_.2.2) xs)) ?_ ?_
         rotate_left
         ·intro hJ11_16
          refine join_ (σ := Nat × Nat) 5 #[true, true, true, true, true, false, true, true, true, true, true, true, true, true, true, true, false, true, true, true, true, true, true, true, true, true, false, false, false] (fun s_ => [(18, .slice (some ⟨s_.1, 0, none⟩) n n), (24, .map (some s_.2))]) (fun s_ w' => (w'.cell? ⟨L.g, 0, none⟩ = some (.slice (some ⟨L.sb, 0, none⟩) n n) ∧ w'.cell? ⟨L.g, 1, none⟩ = some (.slice (some ⟨L.ob, 0, none⟩) n n) ∧ w'.cell? ⟨L.g, 2, none⟩ = some (.slice Ap np cp) ∧ w'.cell? ⟨L.g, 4, none⟩ = some (.bool fs) ∧ w'.cell? ⟨L.g, 5, none⟩ = some (.int .i64 fl) ∧ w'.cell? ⟨L.g, 6, none⟩ = some (.slice Au nu cu) ∧ w'.cell? ⟨L.g, 7, none⟩ = some (.bool fd)) ∧ Aside0 (Below W.heap.size W w') ∧ Aside0 (w'.heap[s_.1]? = some (.cells (nils n) 26 (0, 0)) ∧ W.heap.size ≤ s_.1) ∧ Aside0 (w'.heap[s_.2]? = some (.map #[] 0) ∧ W.heap.size ≤ s_.2)) ?_ ?_
          rotate_left
          ·intro hJ11_17
           refine join_ (σ := (Option Addr × Nat) × Nat) 5 #[true, true, true, true, true, false, true, true, true, true, true, false, true, true, true, true, true, true, true, true, true, true, true, true, true, true, false, false, false] (fun s_ => [(23, .slice s_.1.1 np s_.1.2), (24, .map (some s_.2))]) (fun s_ w' => (w'.cell? ⟨L.g, 0, none⟩ = some (.slice (some ⟨L.sb, 0, none⟩) n n) ∧ w'.cell? ⟨L.g, 1, none⟩ = some (.slice (some ⟨L.ob, 0, none⟩) n n) ∧ w'.cell? ⟨L.g, 2, none⟩ = some (.slice Ap np cp) ∧ w'.cell? ⟨L.g, 4, none⟩ = some (.bool fs) ∧ w'.cell? ⟨L.g, 5, none⟩ = some (.int .i64 fl) ∧ w'.cell? ⟨L.g, 6, none⟩ = some (.slice Au nu cu) ∧ w'.cell? ⟨L.g, 7, none⟩ = some (.bool fd)) ∧ Aside0 (Below W.heap.size W w') ∧ Aside0 (Kd.R k99 84 w' W.heap.size (fun k => W.heap.size ≤ k) (.slice s_.1.1 np s_.1.2) xs) ∧ Aside0 (w'.heap[s_.2]? = some (.map #[] 0) ∧ W.heap.size ≤ s_.2)) ?_ ?_
           rotate_left
           ·intro hJ16_17
            refine join_ (σ := Nat) 6 #[true, true, true, true, true, true, true, true, true, true, true, false, true, true, true, true, false, false, true, true, true, true, true, true, true, true, false, false, false] (fun s_ => [(12, .slice (some ⟨s_, 0, none⟩) n n)]) (fun s_ w' => (w'.cell? ⟨L.g, 0, none⟩ = some (.slice (some ⟨L.sb, 0, none⟩) n n) ∧ w'.cell? ⟨L.g, 1, none⟩ = some (.slice (some ⟨L.ob, 0, none⟩) n n) ∧ w'.cell? ⟨L.g, 2, none⟩ = some (.slice Ap np cp) ∧ w'.cell? ⟨L.g, 4, none⟩ = some (.bool fs) ∧ w'.cell? ⟨L.g, 5, none⟩ = some (.int .i64 fl) ∧ w'.cell? ⟨L.g, 6, none⟩ = some (.slice Au nu cu) ∧ w'.cell? ⟨L.g, 7, none⟩ = some (.bool fd)) ∧ Aside0 (Below W.heap.size W w') ∧ Aside0 (w'.heap[s_]? = some (.cells (strs (List.replicate n ⟨#[]⟩)) 9 (0, 0)) ∧ W.heap.size ≤ s_)) ?_ ?_
            rotate_left
            ·intro hJ5
             refine join_ (σ := Nat) 6 #[true, true, true, true, true, false, true, true, true, true, true, true, true, true, true, true, false, false, true, true, true, true, true, true, true, true, false, false, false] (fun s_ => [(18, .slice (some ⟨s_, 0, none⟩) n n)]) (fun s_ w' => (w'.cell? ⟨L.g, 0, none⟩ = some (.slice (some ⟨L.sb, 0, none⟩) n n) ∧ w'.cell? ⟨L.g, 1, none⟩ = some (.slice (some ⟨L.ob, 0, none⟩) n n) ∧ w'.cell? ⟨L.g, 2, none⟩ = some (.slice Ap np cp) ∧ w'.cell? ⟨L.g, 4, none⟩ = some (.bool fs) ∧ w'.cell? ⟨L.g, 5, none⟩ = some (.int .i64 fl) ∧ w'.cell? ⟨L.g, 6, none⟩ = some (.slice Au nu cu) ∧ w'.cell? ⟨L.g, 7, none⟩ = some (.bool fd)) ∧ Aside0 (Below W.heap.size W w') ∧ Aside0 (w'.heap[s_]? = some (.cells (nils n) 26 (0, 0)) ∧ W.heap.size ≤ s_)) ?_ ?_
             rotate_left
             ·intro hJ11
              refine join_ (σ := (Option Addr × Nat)) 6 #[true, true, true, true, true, false, true, true, true, true, true, false, true, true, true, true, true, false, true, true, true, true, true, true, true, true, false, false, false] (fun s_ => [(23, .slice s_.1 np s_.2)]) (fun s_ w' => (w'.cell? ⟨L.g, 0, none⟩ = some (.slice (some ⟨L.sb, 0, none⟩) n n) ∧ w'.cell? ⟨L.g, 1, none⟩ = some (.slice (some ⟨L.ob, 0, none⟩) n n) ∧ w'.cell? ⟨L.g, 2, none⟩ = some (.slice Ap np cp) ∧ w'.cell? ⟨L.g, 4, none⟩ = some (.bool fs) ∧ w'.cell? ⟨L.g, 5, none⟩ = some (.int .i64 fl) ∧ w'.cell? ⟨L.g, 6, none⟩ = some (.slice Au nu cu) ∧ w'.cell? ⟨L.g, 7, none⟩ = some (.bool fd)) ∧ Aside0 (Below W.heap.size W w') ∧ Aside0 (Kd.R k99 84 w' W.heap.size (fun k => W.heap.size ≤ k) (.slice s_.1 np s_.2) xs)) ?_ ?_
              rotate_left
              ·intro hJ16
               refine join_ (σ := Nat) 6 #[true, true, true, true, true, false, true, true, true, true, true, false, true, true, true, true, false, true, true, true, true, true, true, true, true, true, false, false, false] (fun s_ => [(24, .map (some s_))]) (fun s_ w' => (w'.cell? ⟨L.g, 0, none⟩ = some (.slice (some ⟨L.sb, 0, none⟩) n n) ∧ w'.cell? ⟨L.g, 1, none⟩ = some (.slice (some ⟨L.ob, 0, none⟩) n n) ∧ w'.cell? ⟨L.g, 2, none⟩ = some (.slice Ap np cp) ∧ w'.cell? ⟨L.g, 4, none⟩ = some (.bool fs) ∧ w'.cell? ⟨L.g, 5, none⟩ = some (.int .i64 fl) ∧ w'.cell? ⟨L.g, 6, none⟩ = some (.slice Au nu cu) ∧ w'.cell? ⟨L.g, 7, none⟩ = some (.bool fd)) ∧ Aside0 (Below W.heap.size W w') ∧ Aside0 (w'.heap[s_]? = some (.map #[] 0) ∧ W.heap.size ≤ s_)) ?_ ?_
               rotate_left
               ·intro hJ17
                refine four_ (i := 5) (j := 11) (k := 16) (m := 17) (Ni := some 12) (Nj := some 18) (Nk := some 23) (Nm := some 24) #[true, true, true, true, true, true, true, true, true, true, true, false, true, true, true, true, false, false, true, true, true, true, true, true, true, true, false, false, false] #[true, true, true, true, true, false, true, true, true, true, true, true, true, true, true, true, false, false, true, true, true, true, true, true, true, true, false, false, false] #[true, true, true, true, true, false, true, true, true, true, true, false, true, true, true, true, true, false, true, true, true, true, true, true, true, true, false, false, false] #[true, true, true, true, true, false, true, true, true, true, true, false, true, true, true, true, false, true, true, true, true, true, true, true, true, true, false, false, false] rfl rfl rfl rfl rfl rfl rfl rfl (by kernel_rfl) (by decide) (by decide) (by decide) (by decide) (fun K hK => ?_) (fun K hK => ?_) (fun K hK => ?_) (fun K hK => ?_)
                ·skip
                 refine value_ (w1 := ?_) (v := ?_) (by rfl) rfl ?_ ?_
                 rotate_left 2
                 ·go_simp
                  constructor
                  ·rfl
                  ·rfl
                 refine hK.out _ _ (hold7 (below_alloc (Below.refl _ _) _) hHeld) (fun hHeld => ?_)
                 clear hK K
                 refine norm_ (a' := ?_) ?_ ?_
                 rotate_left
                 ·show Act.put _ (some 12) _ = _
                  simp only [Act.put, List.setIfInBounds_toArray, List.set_cons_zero, List.set_cons_succ, i64_w, i32_w]
                  rfl
                 exact norm_ (by first | (simp only [putAll, Act.put, List.setIfInBounds_toArray, List.set_cons_zero, List.set_cons_succ]; done) | (simp only [putAll, Act.put, List.setIfInBounds_toArray, List.set_cons_zero, List.set_cons_succ]; rfl)) (hJ5 (W.drew.heap.size) _ ⟨hHeld, ⟨HBe.out.trans ((below_alloc (Below.refl _ _) _).mono HBe.out.size)⟩, ⟨⟨blk_new _ _, HBe.out.size⟩⟩⟩)
                ·skip
                 refine value_ (w1 := ?_) (v := ?_) (by rfl) rfl ?_ ?_
                 rotate_left 2
                 ·go_simp
                  constructor
                  ·rfl
                  ·rfl
                 refine hK.out _ _ (hold7 (below_alloc (Below.refl _ _) _) hHeld) (fun hHeld => ?_)
                 clear hK K
                 refine norm_ (a' := ?_) ?_ ?_
                 rotate_left
                 ·show Act.put _ (some 18) _ = _
                  simp only [Act.put, List.setIfInBounds_toArray, List.set_cons_zero, List.set_cons_succ, i64_w, i32_w]
                  rfl
                 exact norm_ (by first | (simp only [putAll, Act.put, List.setIfInBounds_toArray, List.set_cons_zero, List.set_cons_succ]; done) | (simp only [putAll, Act.put, List.setIfInBounds_toArray, List.set_cons_zero, List.set_cons_succ]; rfl)) (hJ11 (W.drew.heap.size) _ ⟨hHeld, ⟨HBe.out.trans ((below_alloc (Below.refl _ _) _).mono HBe.out.size)⟩, ⟨⟨blk_new _ _, HBe.out.size⟩⟩⟩)
                ·skip
                 refine goes_ Try.func44 (by kernel_rfl) rfl #[.slice Ap np cp] (by rfl) rfl rfl (by simp only [List.map_toArray, List.map_cons, List.map_nil]; rfl) ?_
                 with_reducible refine (HCL.out _ HBe.out).mono ?_
                 rintro e w3 ⟨Aq, cq, rfl, hR, hb⟩
                 refine ⟨_, rfl, ?_⟩
                 refine hK.out _ _ (hold7 hb hHeld) (fun hHeld => ?_)
                 clear hK K
                 refine norm_ (a' := ?_) ?_ ?_
                 rotate_left
                 ·show Act.put _ (some 23) _ = _
                  simp only [Act.put, List.setIfInBounds_toArray, List.set_cons_zero, List.set_cons_succ, i64_w, i32_w]
                  rfl
                 exact norm_ (by first | (simp only [putAll, Act.put, List.setIfInBounds_toArray, List.set_cons_zero, List.set_cons_succ]; done) | (simp only [putAll, Act.put, List.setIfInBounds_toArray, List.set_cons_zero, List.set_cons_succ]; rfl)) (hJ16 ((Aq, cq)) _ ⟨hHeld, ⟨HBe.out.trans (hb.mono HBe.out.size)⟩, ⟨hR⟩⟩)
                ·skip
                 refine value_ (w1 := ?_) (v := ?_) (by rfl) rfl ?_ ?_
                 rotate_left 2
                 ·go_simp
                  constructor
                  ·rfl
                  ·rfl
                 refine hK.out _ _ (hold7 (below_alloc (Below.refl _ _) _) hHeld) (fun hHeld => ?_)
                 clear hK K
                 refine norm_ (a' := ?_) ?_ ?_
                 rotate_left
                 ·show Act.put _ (some 24) _ = _
                  simp only [Act.put, List.setIfInBounds_toArray, List.set_cons_zero, List.set_cons_succ, i64_w, i32_w]
                  rfl
                 exact norm_ (by first | (simp only [putAll, Act.put, List.setIfInBounds_toArray, List.set_cons_zero, List.set_cons_succ]; done) | (simp only [putAll, Act.put, List.setIfInBounds_toArray, List.set_cons_zero, List.set_cons_succ]; rfl)) (hJ17 (W.drew.heap.size) _ ⟨hHeld, ⟨HBe.out.trans ((below_alloc (Below.refl _ _) _).mono HBe.out.size)⟩, ⟨⟨blk_new _ _, HBe.out.size⟩⟩⟩)
               ·skip
                rintro bm w17 ⟨hHeld, HBe, H17⟩
                refine norm_ (a' := ?_) ?_ ?_
                rotate_left
                ·simp only [putAll, Act.put, List.setIfInBounds_toArray, List.set_cons_zero, List.set_cons_succ]
                 rfl
                refine three_ (i := 5) (j := 11) (k := 16) (Ni := some 12) (Nj := some 18) (Nk := some 23) #[true, true, true, true, true, true, true, true, true, true, true, false, true, true, true, true, false, true, true, true, true, true, true, true, true, true, false, false, false] #[true, true, true, true, true, false, true, true, true, true, true, true, true, true, true, true, false, true, true, true, true, true, true, true, true, true, false, false, false] #[true, true, true, true, true, false, true, true, true, true, true, false, true, true, true, true, true, true, true, true, true, true, true, true, true, true, false, false, false] rfl rfl rfl rfl rfl rfl (by kernel_rfl) (by decide) (by decide) (by decide) (fun K hK => ?_) (fun K hK => ?_) (fun K hK => ?_)
                ·skip
                 refine value_ (w1 := ?_) (v := ?_) (by rfl) rfl ?_ ?_
                 rotate_left 2
                 ·go_simp
                  constructor
                  ·rfl
                  ·rfl
                 refine hK.out _ _ (hold7 (below_alloc (Below.refl _ _) _) hHeld) (fun hHeld => ?_)
                 clear hK K
                 refine norm_ (a' := ?_) ?_ ?_
                 rotate_left
                 ·show Act.put _ (some 12) _ = _
                  simp only [Act.put, List.setIfInBounds_toArray, List.set_cons_zero, List.set_cons_succ, i64_w, i32_w]
                  rfl
                 exact norm_ (by first | (simp only [putAll, Act.put, List.setIfInBounds_toArray, List.set_cons_zero, List.set_cons_succ]; done) | (simp only [putAll, Act.put, List.setIfInBounds_toArray, List.set_cons_zero, List.set_cons_succ]; rfl)) (hJ5_17 (w17.heap.size, bm) _ ⟨hHeld, ⟨HBe.out.trans ((below_alloc (Below.refl _ _) _).mono HBe.out.size)⟩, ⟨⟨blk_new _ _, HBe.out.size⟩⟩, ⟨⟨blk_below H17.out.1 (below_alloc (Below.refl _ _) _), H17.out.2⟩⟩⟩)
                ·skip
                 refine value_ (w1 := ?_) (v := ?_) (by rfl) rfl ?_ ?_
                 rotate_left 2
                 ·go_simp
                  constructor
                  ·rfl
                  ·rfl
                 refine hK.out _ _ (hold7 (below_alloc (Below.refl _ _) _) hHeld) (fun hHeld => ?_)
                 clear hK K
                 refine norm_ (a' := ?_) ?_ ?_
                 rotate_left
                 ·show Act.put _ (some 18) _ = _
                  simp only [Act.put, List.setIfInBounds_toArray, List.set_cons_zero, List.set_cons_succ, i64_w, i32_w]
                  rfl
                 exact norm_ (by first | (simp only [putAll, Act.put, List.setIfInBounds_toArray, List.set_cons_zero, List.set_cons_succ]; done) | (simp only [putAll, Act.put, List.setIfInBounds_toArray, List.set_cons_zero, List.set_cons_succ]; rfl)) (hJ11_17 (w17.heap.size, bm) _ ⟨hHeld, ⟨HBe.out.trans ((below_alloc (Below.refl _ _) _).mono HBe.out.size)⟩, ⟨⟨blk_new _ _, HBe.out.size⟩⟩, ⟨⟨blk_below H17.out.1 (below_alloc (Below.refl _ _) _), H17.out.2⟩⟩⟩)
                ·skip
                 refine goes_ Try.func44 (by kernel_rfl) rfl #[.slice Ap np cp] (by rfl) rfl rfl (by simp only [List.map_toArray, List.map_cons, List.map_nil]; rfl) ?_
                 with_reducible refine (HCL.out _ HBe.out).mono ?_
                 rintro e w3 ⟨Aq, cq, rfl, hR, hb⟩
                 refine ⟨_, rfl, ?_⟩
                 refine hK.out _ _ (hold7 hb hHeld) (fun hHeld => ?_)
                 clear hK K
                 refine norm_ (a' := ?_) ?_ ?_
                 rotate_left
                 ·show Act.put _ (some 23) _ = _
                  simp only [Act.put, List.setIfInBounds_toArray, List.set_cons_zero, List.set_cons_succ, i64_w, i32_w]
                  rfl
                 exact norm_ (by first | (simp only [putAll, Act.put, List.setIfInBounds_toArray, List.set_cons_zero, List.set_cons_succ]; done) | (simp only [putAll, Act.put, List.setIfInBounds_toArray, List.set_cons_zero, List.set_cons_succ]; rfl)) (hJ16_17 ((Aq, cq), bm) _ ⟨hHeld, ⟨HBe.out.trans (hb.mono HBe.out.size)⟩, ⟨hR⟩, ⟨⟨blk_below H17.out.1 hb, H17.out.2⟩⟩⟩)
              ·skip
               rintro pq w16 ⟨hHeld, HBe, H16⟩
               refine norm_ (a' := ?_) ?_ ?_
               rotate_left
               ·simp only [putAll, Act.put, List.setIfInBounds_toArray, List.set_cons_zero, List.set_cons_succ]
                rfl
               refine three_ (i := 5) (j := 11) (k := 17) (Ni := some 12) (Nj := some 18) (Nk := some 24) #[true, true, true, true, true, true, true, true, true, true, true, false, true, true, true, true, true, false, true, true, true, true, true, true, true, true, false, false, false] #[true, true, true, true, true, false, true, true, true, true, true, true, true, true, true, true, true, false, true, true, true, true, true, true, true, true, false, false, false] #[true, true, true, true, true, false, true, true, true, true, true, false, true, true, true, true, true, true, true, true, true, true, true, true, true, true, false, false, false] rfl rfl rfl rfl rfl rfl (by kernel_rfl) (by decide) (by decide) (by decide) (fun K hK => ?_) (fun K hK => ?_) (fun K hK => ?_)
               ·skip
                refine value_ (w1 := ?_) (v := ?_) (by rfl) rfl ?_ ?_
                rotate_left 2
                ·go_simp
                 constructor
                 ·rfl
                 ·rfl
                refine hK.out _ _ (hold7 (below_alloc (Below.refl _ _) _) hHeld) (fun hHeld => ?_)
                clear hK K
                refine norm_ (a' := ?_) ?_ ?_
                rotate_left
                ·show Act.put _ (some 12) _ = _
                 simp only [Act.put, List.setIfInBounds_toArray, List.set_cons_zero, List.set_cons_succ, i64_w, i32_w]
                 rfl
                exact norm_ (by first | (simp only [putAll, Act.put, List.setIfInBounds_toArray, List.set_cons_zero, List.set_cons_succ]; done) | (simp only [putAll, Act.put, List.setIfInBounds_toArray, List.set_cons_zero, List.set_cons_succ]; rfl)) (hJ5_16 (w16.heap.size, pq) _ ⟨hHeld, ⟨HBe.out.trans ((below_alloc (Below.refl _ _) _).mono HBe.out.size)⟩, ⟨⟨blk_new _ _, HBe.out.size⟩⟩, ⟨Kd.R_below H16.out (below_alloc (Below.refl _ _) _)⟩⟩)
               ·skip
                refine value_ (w1 := ?_) (v := ?_) (by rfl) rfl ?_ ?_
                rotate_left 2
                ·go_simp
                 constructor
                 ·rfl
                 ·rfl
                refine hK.out _ _ (hold7 (below_alloc (Below.refl _ _) _) hHeld) (fun hHeld => ?_)
                clear hK K
                refine norm_ (a' := ?_) ?_ ?_
                rotate_left
                ·show Act.put _ (some 18) _ = _
                 simp only [Act.put, List.setIfInBounds_toArray, List.set_cons_zero, List.set_cons_succ, i64_w, i32_w]
                 rfl
                exact norm_ (by first | (simp only [putAll, Act.put, List.setIfInBounds_toArray, List.set_cons_zero, List.set_cons_succ]; done) | (simp only [putAll, Act.put, List.setIfInBounds_toArray, List.set_cons_zero, List.set_cons_succ]; rfl)) (hJ11_16 (w16.heap.size, pq) _ ⟨hHeld, ⟨HBe.out.trans ((below_alloc (Below.refl _ _) _).mono HBe.out.size)⟩, ⟨⟨blk_new _ _, HBe.out.size⟩⟩, ⟨Kd.R_below H16.out (below_alloc (Below.refl _ _) _)⟩⟩)
               ·skip
                refine value_ (w1 := ?_) (v := ?_) (by rfl) rfl ?_ ?_
                rotate_left 2
                ·go_simp
                 constructor
                 ·rfl
                 ·rfl
                refine hK.out _ _ (hold7 (below_alloc (Below.refl _ _) _) hHeld) (fun hHeld => ?_)
                clear hK K
                refine norm_ (a' := ?_) ?_ ?_
                rotate_left
                ·show Act.put _ (some 24) _ = _
                 simp only [Act.put, List.setIfInBounds_toArray, List.set_cons_zero, List.set_cons_succ, i64_w, i32_w]
                 rfl
                exact norm_ (by first | (simp only [putAll, Act.put, List.setIfInBounds_toArray, List.set_cons_zero, List.set_cons_succ]; done) | (simp only [putAll, Act.put, List.setIfInBounds_toArray, List.set_cons_zero, List.set_cons_succ]; rfl)) (hJ16_17 (pq, w16.heap.size) _ ⟨hHeld, ⟨HBe.out.trans ((below_alloc (Below.refl _ _) _).mono HBe.out.size)⟩, ⟨Kd.R_below H16.out (below_alloc (Below.refl _ _) _)⟩, ⟨⟨blk_new _ _, HBe.out.size⟩⟩⟩)
             ·skip
              rintro ob w11 ⟨hHeld, HBe, H11⟩
              refine norm_ (a' := ?_) ?_ ?_
              rotate_left
              ·simp only [putAll, Act.put, List.setIfInBounds_toArray, List.set_cons_zero, List.set_cons_succ]
               rfl
              refine three_ (i := 5) (j := 16) (k := 17) (Ni := some 12) (Nj := some 23) (Nk := some 24) #[true, true, true, true, true, true, true, true, true, true, true, true, true, true, true, true, false, false, true, true, true, true, true, true, true, true, false, false, false] #[true, true, true, true, true, false, true, true, true, true, true, true, true, true, true, true, true, false, true, true, true, true, true, true, true, true, false, false, false] #[true, true, true, true, true, false, true, true, true, true, true, true, true, true, true, true, false, true, true, true, true, true, true, true, true, true, false, false, false] rfl rfl rfl rfl rfl rfl (by kernel_rfl) (by decide) (by decide) (by decide) (fun K hK => ?_) (fun K hK => ?_) (fun K hK => ?_)
              ·skip
               refine value_ (w1 := ?_) (v := ?_) (by rfl) rfl ?_ ?_
               rotate_left 2
               ·go_simp
                constructor
                ·rfl
                ·rfl
               refine hK.out _ _ (hold7 (below_alloc (Below.refl _ _) _) hHeld) (fun hHeld => ?_)
               clear hK K
               refine norm_ (a' := ?_) ?_ ?_
               rotate_left
               ·show Act.put _ (some 12) _ = _
                simp only [Act.put, List.setIfInBounds_toArray, List.set_cons_zero, List.set_cons_succ, i64_w, i32_w]
                rfl
               exact norm_ (by first | (simp only [putAll, Act.put, List.setIfInBounds_toArray, List.set_cons_zero, List.set_cons_succ]; done) | (simp only [putAll, Act.put, List.setIfInBounds_toArray, List.set_cons_zero, List.set_cons_succ]; rfl)) (hJ5_11 (w11.heap.size, ob) _ ⟨hHeld, ⟨HBe.out.trans ((below_alloc (Below.refl _ _) _).mono HBe.out.size)⟩, ⟨⟨blk_new _ _, HBe.out.size⟩⟩, ⟨⟨blk_below H11.out.1 (below_alloc (Below.refl _ _) _), H11.out.2⟩⟩⟩)
              ·skip
               refine goes_ Try.func44 (by kernel_rfl) rfl #[.slice Ap np cp] (by rfl) rfl rfl (by simp only [List.map_toArray, List.map_cons, List.map_nil]; rfl) ?_
               with_reducible refine (HCL.out _ HBe.out).mono ?_
               rintro e w3 ⟨Aq, cq, rfl, hR, hb⟩
               refine ⟨_, rfl, ?_⟩
               refine hK.out _ _ (hold7 hb hHeld) (fun hHeld => ?_)
               clear hK K
               refine norm_ (a' := ?_) ?_ ?_
               rotate_left
               ·show Act.put _ (some 23) _ = _
                simp only [Act.put, List.setIfInBounds_toArray, List.set_cons_zero, List.set_cons_succ, i64_w, i32_w]
                rfl
               exact norm_ (by first | (simp only [putAll, Act.put, List.setIfInBounds_toArray, List.set_cons_zero, List.set_cons_succ]; done) | (simp only [putAll, Act.put, List.setIfInBounds_toArray, List.set_cons_zero, List.set_cons_succ]; rfl)) (hJ11_16 (ob, (Aq, cq)) _ ⟨hHeld, ⟨HBe.out.trans (hb.mono HBe.out.size)⟩, ⟨⟨blk_below H11.out.1 hb, H11.out.2⟩⟩, ⟨hR⟩⟩)
              ·skip
               refine value_ (w1 := ?_) (v := ?_) (by rfl) rfl ?_ ?_
               rotate_left 2
               ·go_simp
                constructor
                ·rfl
                ·rfl
               refine hK.out _ _ (hold7 (below_alloc (Below.refl _ _) _) hHeld) (fun hHeld => ?_)
               clear hK K
               refine norm_ (a' := ?_) ?_ ?_
               rotate_left
               ·show Act.put _ (some 24) _ = _
                simp only [Act.put, List.setIfInBounds_toArray, List.set_cons_zero, List.set_cons_succ, i64_w, i32_w]
                rfl
               exact norm_ (by first | (simp only [putAll, Act.put, List.setIfInBounds_toArray, List.set_cons_zero, List.set_cons_succ]; done) | (simp only [putAll, Act.put, List.setIfInBounds_toArray, List.set_cons_zero, List.set_cons_succ]; rfl)) (hJ11_17 (ob, w11.heap.size) _ ⟨hHeld, ⟨HBe.out.trans ((below_alloc (Below.refl _ _) _).mono HBe.out.size)⟩, ⟨⟨blk_below H11.out.1 (below_alloc (Below.refl _ _) _), H11.out.2⟩⟩, ⟨⟨blk_new _ _, HBe.out.size⟩⟩⟩)
            ·skip
             rintro sb w5 ⟨hHeld, HBe, H5⟩
             refine norm_ (a' := ?_) ?_ ?_
             rotate_left
             ·simp only [putAll, Act.put, List.setIfInBounds_toArray, List.set_cons_zero, List.set_cons_succ]
              rfl
             refine three_ (i := 11) (j := 16) (k := 17) (Ni := some 18) (Nj := some 23) (Nk := some 24) #[true, true, true, true, true, true, true, true, true, true, true, true, true, true, true, true, false, false, true, true, true, true, true, true, true, true, false, false, false] #[true, true, true, true, true, true, true, true, true, true, true, false, true, true, true, true, true, false, true, true, true, true, true, true, true, true, false, false, false] #[true, true, true, true, true, true, true, true, true, true, true, false, true, true, true, true, false, true, true, true, true, true, true, true, true, true, false, false, false] rfl rfl rfl rfl rfl rfl (by kernel_rfl) (by decide) (by decide) (by decide) (fun K hK => ?_) (fun K hK => ?_) (fun K hK => ?_)
             ·skip
              refine value_ (w1 := ?_) (v := ?_) (by rfl) rfl ?_ ?_
              rotate_left 2
              ·go_simp
               constructor
               ·rfl
               ·rfl
              refine hK.out _ _ (hold7 (below_alloc (Below.refl _ _) _) hHeld) (fun hHeld => ?_)
              clear hK K
              refine norm_ (a' := ?_) ?_ ?_
              rotate_left
              ·show Act.put _ (some 18) _ = _
               simp only [Act.put, List.setIfInBounds_toArray, List.set_cons_zero, List.set_cons_succ, i64_w, i32_w]
               rfl
              exact norm_ (by first | (simp only [putAll, Act.put, List.setIfInBounds_toArray, List.set_cons_zero, List.set_cons_succ]; done) | (simp only [putAll, Act.put, List.setIfInBounds_toArray, List.set_cons_zero, List.set_cons_succ]; rfl)) (hJ5_11 (sb, w5.heap.size) _ ⟨hHeld, ⟨HBe.out.trans ((below_alloc (Below.refl _ _) _).mono HBe.out.size)⟩, ⟨⟨blk_below H5.out.1 (below_alloc (Below.refl _ _) _), H5.out.2⟩⟩, ⟨⟨blk_new _ _, HBe.out.size⟩⟩⟩)
             ·skip
              refine goes_ Try.func44 (by kernel_rfl) rfl #[.slice Ap np cp] (by rfl) rfl rfl (by simp only [List.map_toArray, List.map_cons, List.map_nil]; rfl) ?_
              with_reducible refine (HCL.out _ HBe.out).mono ?_
              rintro e w3 ⟨Aq, cq, rfl, hR, hb⟩
              refine ⟨_, rfl, ?_⟩
              refine hK.out _ _ (hold7 hb hHeld) (fun hHeld => ?_)
              clear hK K
              refine norm_ (a' := ?_) ?_ ?_
              rotate_left
              ·show Act.put _ (some 23) _ = _
               simp only [Act.put, List.setIfInBounds_toArray, List.set_cons_zero, List.set_cons_succ, i64_w, i32_w]
               rfl
              exact norm_ (by first | (simp only [putAll, Act.put, List.setIfInBounds_toArray, List.set_cons_zero, List.set_cons_succ]; done) | (simp only [putAll, Act.put, List.setIfInBounds_toArray, List.set_cons_zero, List.set_cons_succ]; rfl)) (hJ5_16 (sb, (Aq, cq)) _ ⟨hHeld, ⟨HBe.out.trans (hb.mono HBe.out.size)⟩, ⟨⟨blk_below H5.out.1 hb, H5.out.2⟩⟩, ⟨hR⟩⟩)
             ·skip
              refine value_ (w1 := ?_) (v := ?_) (by rfl) rfl ?_ ?_
              rotate_left 2
              ·go_simp
               constructor
               ·rfl
               ·rfl
              refine hK.out _ _ (hold7 (below_alloc (Below.refl _ _) _) hHeld) (fun hHeld => ?_)
              clear hK K
              refine norm_ (a' := ?_) ?_ ?_
              rotate_left
              ·show Act.put _ (some 24) _ = _
               simp only [Act.put, List.setIfInBounds_toArray, List.set_cons_zero, List.set_cons_succ, i64_w, i32_w]
               rfl
              exact norm_ (by first | (simp only [putAll, Act.put, List.setIfInBounds_toArray, List.set_cons_zero, List.set_cons_succ]; done) | (simp only [putAll, Act.put, List.setIfInBounds_toArray, List.set_cons_zero, List.set_cons_succ]; rfl)) (hJ5_17 (sb, w5.heap.size) _ ⟨hHeld, ⟨HBe.out.trans ((below_alloc (Below.refl _ _) _).mono HBe.out.size)⟩, ⟨⟨blk_below H5.out.1 (below_alloc (Below.refl _ _) _), H5.out.2⟩⟩, ⟨⟨blk_new _ _, HBe.out.size⟩⟩⟩)
           ·skip
            rintro ⟨pq, bm⟩ w16_17 ⟨hHeld, HBe, H16, H17⟩
            refine norm_ (a' := ?_) ?_ ?_
            rotate_left
            ·simp only [putAll, Act.put, List.setIfInBounds_toArray, List.set_cons_zero, List.set_cons_succ]
             rfl
            refine two_ (i := 5) (j := 11) (Ni := some 12) (Nj := some 18) #[true, true, true, true, true, true, true, true, true, true, true, false, true, true, true, true, true, true, true, true, true, true, true, true, true, true, false, false, false] #[true, true, true, true, true, false, true, true, true, true, true, true, true, true, true, true, true, true, true, true, true, true, true, true, true, true, false, false, false] rfl rfl rfl rfl (by kernel_rfl) (by decide) (by decide) (fun K hK => ?_) (fun K hK => ?_)
            ·skip
             refine value_ (w1 := ?_) (v := ?_) (by rfl) rfl ?_ ?_
             rotate_left 2
             ·go_simp
              constructor
              ·rfl
              ·rfl
             refine hK.out _ _ (hold7 (below_alloc (Below.refl _ _) _) hHeld) (fun hHeld => ?_)
             clear hK K
             refine norm_ (a' := ?_) ?_ ?_
             rotate_left
             ·show Act.put _ (some 12) _ = _
              simp only [Act.put, List.setIfInBounds_toArray, List.set_cons_zero, List.set_cons_succ, i64_w, i32_w]
              rfl
             exact norm_ (by first | (simp only [putAll, Act.put, List.setIfInBounds_toArray, List.set_cons_zero, List.set_cons_succ]; done) | (simp only [putAll, Act.put, List.setIfInBounds_toArray, List.set_cons_zero, List.set_cons_succ]; rfl)) (hJ5_16_17 (w16_17.heap.size, pq, bm) _ ⟨hHeld, ⟨HBe.out.trans ((below_alloc (Below.refl _ _) _).mono HBe.out.size)⟩, ⟨⟨blk_new _ _, HBe.out.size⟩⟩, ⟨Kd.R_below H16.out (below_alloc (Below.refl _ _) _)⟩, ⟨⟨blk_below H17.out.1 (below_alloc (Below.refl _ _) _), H17.out.2⟩⟩⟩)
            ·skip
             refine value_ (w1 := ?_) (v := ?_) (by rfl) rfl ?_ ?_
             rotate_left 2
             ·go_simp
              constructor
              ·rfl
              ·rfl
             refine hK.out _ _ (hold7 (below_alloc (Below.refl _ _) _) hHeld) (fun hHeld => ?_)
             clear hK K
             refine norm_ (a' := ?_) ?_ ?_
             rotate_left
             ·show Act.put _ (some 18) _ = _
              simp only [Act.put, List.setIfInBounds_toArray, List.set_cons_zero, List.set_cons_succ, i64_w, i32_w]
              rfl
             exact norm_ (by first | (simp only [putAll, Act.put, List.setIfInBounds_toArray, List.set_cons_zero, List.set_cons_succ]; done) | (simp only [putAll, Act.put, List.setIfInBounds_toArray, List.set_cons_zero, List.set_cons_succ]; rfl)) (hJ11_16_17 (w16_17.heap.size, pq, bm) _ ⟨hHeld, ⟨HBe.out.trans ((below_alloc (Below.refl _ _) _).mono HBe.out.size)⟩, ⟨⟨blk_new _ _, HBe.out.size⟩⟩, ⟨Kd.R_below H16.out (below_alloc (Below.refl _ _) _)⟩, ⟨⟨blk_below H17.out.1 (below_alloc (Below.refl _ _) _), H17.out.2⟩⟩⟩)
          ·skip
           rintro ⟨ob, bm⟩ w11_17 ⟨hHeld, HBe, H11, H17⟩
           refine norm_ (a' := ?_) ?_ ?_
           rotate_left
           ·simp only [putAll, Act.put, List.setIfInBounds_toArray, List.set_cons_zero, List.set_cons_succ]
            rfl
           refine two_ (i := 5) (j := 16) (Ni := some 12) (Nj := some 23) #[true, true, true, true, true, true, true, true, true, true, true, true, true, true, true, true, false, true, true, true, true, true, true, true, true, true, false, false, false] #[true, true, true, true, true, false, true, true, true, true, true, true, true, true, true, true, true, true, true, true, true, true, true, true, true, true, false, false, false] rfl rfl rfl rfl (by kernel_rfl) (by decide) (by decide) (fun K hK => ?_) (fun K hK => ?_)
           ·skip
            refine value_ (w1 := ?_) (v := ?_) (by rfl) rfl ?_ ?_
            rotate_left 2
            ·go_simp
             constructor
             ·rfl
             ·rfl
            refine hK.out _ _ (hold7 (below_alloc (Below.refl _ _) _) hHeld) (fun hHeld => ?_)
            clear hK K
            refine norm_ (a' := ?_) ?_ ?_
            rotate_left
            ·show Act.put _ (some 12) _ = _
             simp only [Act.put, List.setIfInBounds_toArray, List.set_cons_zero, List.set_cons_succ, i64_w, i32_w]
             rfl
            exact norm_ (by first | (simp only [putAll, Act.put, List.setIfInBounds_toArray, List.set_cons_zero, List.set_cons_succ]; done) | (simp only [putAll, Act.put, List.setIfInBounds_toArray, List.set_cons_zero, List.set_cons_succ]; rfl)) (hJ5_11_17 (w11_17.heap.size, ob, bm) _ ⟨hHeld, ⟨HBe.out.trans ((below_alloc (Below.refl _ _) _).mono HBe.out.size)⟩, ⟨⟨blk_new _ _, HBe.out.size⟩⟩, ⟨⟨blk_below H11.out.1 (below_alloc (Below.refl _ _) _), H11.out.2⟩⟩, ⟨⟨blk_below H17.out.1 (below_alloc (Below.refl _ _) _), H17.out.2⟩⟩⟩)
           ·skip
            refine goes_ Try.func44 (by kernel_rfl) rfl #[.slice Ap np cp] (by rfl) rfl rfl (by simp only [List.map_toArray, List.map_cons, List.map_nil]; rfl) ?_
            with_reducible refine (HCL.out _ HBe.out).mono ?_
            rintro e w3 ⟨Aq, cq, rfl, hR, hb⟩
            refine ⟨_, rfl, ?_⟩
            refine hK.out _ _ (hold7 hb hHeld) (fun hHeld => ?_)
            clear hK K
            refine norm_ (a' := ?_) ?_ ?_
            rotate_left
            ·show Act.put _ (some 23) _ = _
             simp only [Act.put, List.setIfInBounds_toArray, List.set_cons_zero, List.set_cons_succ, i64_w, i32_w]
             rfl
            exact norm_ (by first | (simp only [putAll, Act.put, List.setIfInBounds_toArray, List.set_cons_zero, List.set_cons_succ]; done) | (simp only [putAll, Act.put, List.setIfInBounds_toArray, List.set_cons_zero, List.set_cons_succ]; rfl)) (hJ11_16_17 (ob, (Aq, cq), bm) _ ⟨hHeld, ⟨HBe.out.trans (hb.mono HBe.out.size)⟩, ⟨⟨blk_below H11.out.1 hb, H11.out.2⟩⟩, ⟨hR⟩, ⟨⟨blk_below H17.out.1 hb, H17.out.2⟩⟩⟩)
         ·skip
          rintro ⟨ob, pq⟩ w11_16 ⟨hHeld, HBe, H11, H16⟩
          refine norm_ (a' := ?_) ?_ ?_
          rotate_left
          ·simp only [putAll, Act.put, List.setIfInBounds_toArray, List.set_cons_zero, List.set_cons_succ]
           rfl
          refine two_ (i := 5) (j := 17) (Ni := some 12) (Nj := some 24) #[true, true, true, true, true, true, true, true, true, true, true, true, true, true, true, true, true, false, true, true, true, true, true, true, true, true, false, false, false] #[true, true, true, true, true, false, true, true, true, true, true, true, true, true, true, true, true, true, true, true, true, true, true, true, true, true, false, false, false] rfl rfl rfl rfl (by kernel_rfl) (by decide) (by decide) (fun K hK => ?_) (fun K hK => ?_)
          ·skip
           refine value_ (w1 := ?_) (v := ?_) (by rfl) rfl ?_ ?_
           rotate_left 2
           ·go_simp
            constructor
            ·rfl
            ·rfl
           refine hK.out _ _ (hold7 (below_alloc (Below.refl _ _) _) hHeld) (fun hHeld => ?_)
           clear hK K
           refine norm_ (a' := ?_) ?_ ?_
           rotate_left
           ·show Act.put _ (some 12) _ = _
            simp only [Act.put, List.setIfInBounds_toArray, List.set_cons_zero, List.set_cons_succ, i64_w, i32_w]
            rfl
           exact norm_ (by first | (simp only [putAll, Act.put, List.setIfInBounds_toArray, List.set_cons_zero, List.set_cons_succ]; done) | (simp only [putAll, Act.put, List.setIfInBounds_toArray, List.set_cons_zero, List.set_cons_succ]; rfl)) (hJ5_11_16 (w11_16.heap.size, ob, pq) _ ⟨hHeld, ⟨HBe.out.trans ((below_alloc (Below.refl _ _) _).mono HBe.out.size)⟩, ⟨⟨blk_new _ _, HBe.out.size⟩⟩, ⟨⟨blk_below H11.out.1 (below_alloc (Below.refl _ _) _), H11.out.2⟩⟩, ⟨Kd.R_below H16.out (below_alloc (Below.refl _ _) _)⟩⟩)
          ·skip
           refine value_ (w1 := ?_) (v := ?_) (by rfl) rfl ?_ ?_
           rotate_left 2
           ·go_simp
            constructor
            ·rfl
            ·rfl
           refine hK.out _ _ (hold7 (below_alloc (Below.refl _ _) _) hHeld) (fun hHeld => ?_)
           clear hK K
           refine norm_ (a' := ?_) ?_ ?_
           rotate_left
           ·show Act.put _ (some 24) _ = _
            simp only [Act.put, List.setIfInBounds_toArray, List.set_cons_zero, List.set_cons_succ, i64_w, i32_w]
            rfl
           exact norm_ (by first | (simp only [putAll, Act.put, List.setIfInBounds_toArray, List.set_cons_zero, List.set_cons_succ]; done) | (simp only [putAll, Act.put, List.setIfInBounds_toArray, List.set_cons_zero, List.set_cons_succ]; rfl)) (hJ11_16_17 (ob, pq, w11_16.heap.size) _ ⟨hHeld, ⟨HBe.out.trans ((below_alloc (Below.refl _ _) _).mono HBe.out.size)⟩, ⟨⟨blk_below H11.out.1 (below_alloc (Below.refl _ _) _), H11.out.2⟩⟩, ⟨Kd.R_below H16.out (below_alloc (Below.refl _ _) _)⟩, ⟨⟨blk_new _ _, HBe.out.size⟩⟩⟩)
        ·skip
         rintro ⟨sb, bm⟩ w5_17 ⟨hHeld, HBe, H5, H17⟩
         refine norm_ (a' := ?_) ?_ ?_
         rotate_left
         ·simp only [putAll, Act.put, List.setIfInBounds_toArray, List.set_cons_zero, List.set_cons_succ]
          rfl
         refine two_ (i := 11) (j := 16) (Ni := some 18) (Nj := some 23) #[true, true, true, true, true, true, true, true, true, true, true, true, true, true, true, true, false, true, true, true, true, true, true, true, true, true, false, false, false] #[true, true, true, true, true, true, true, true, true, true, true, false, true, true, true, true, true, true, true, true, true, true, true, true, true, true, false, false, false] rfl rfl rfl rfl (by kernel_rfl) (by decide) (by decide) (fun K hK => ?_) (fun K hK => ?_)
         ·skip
          refine value_ (w1 := ?_) (v := ?_) (by rfl) rfl ?_ ?_
          rotate_left 2
          ·go_simp
           constructor
           ·rfl
           ·rfl
          refine hK.out _ _ (hold7 (below_alloc (Below.refl _ _) _) hHeld) (fun hHeld => ?_)
          clear hK K
          refine norm_ (a' := ?_) ?_ ?_
          rotate_left
          ·show Act.put _ (some 18) _ = _
           simp only [Act.put, List.setIfInBounds_toArray, List.set_cons_zero, List.set_cons_succ, i64_w, i32_w]
           rfl
          exact norm_ (by first | (simp only [putAll, Act.put, List.setIfInBounds_toArray, List.set_cons_zero, List.set_cons_succ]; done) | (simp only [putAll, Act.put, List.setIfInBounds_toArray, List.set_cons_zero, List.set_cons_succ]; rfl)) (hJ5_11_17 (sb, w5_17.heap.size, bm) _ ⟨hHeld, ⟨HBe.out.trans ((below_alloc (Below.refl _ _) _).mono HBe.out.size)⟩, ⟨⟨blk_below H5.out.1 (below_alloc (Below.refl _ _) _), H5.out.2⟩⟩, ⟨⟨blk_new _ _, HBe.out.size⟩⟩, ⟨⟨blk_below H17.out.1 (below_alloc (Below.refl _ _) _), H17.out.2⟩⟩⟩)
         ·skip
          refine goes_ Try.func44 (by kernel_rfl) rfl #[.slice Ap np cp] (by rfl) rfl rfl (by simp only [List.map_toArray, List.map_cons, List.map_nil]; rfl) ?_
          with_reducible refine (HCL.out _ HBe.out).mono ?_
          rintro e w3 ⟨Aq, cq, rfl, hR, hb⟩
          refine ⟨_, rfl, ?_⟩
          refine hK.out _ _ (hold7 hb hHeld) (fun hHeld => ?_)
          clear hK K
          refine norm_ (a' := ?_) ?_ ?_
          rotate_left
          ·show Act.put _ (some 23) _ = _
           simp only [Act.put, List.setIfInBounds_toArray, List.set_cons_zero, List.set_cons_succ, i64_w, i32_w]
           rfl
          exact norm_ (by first | (simp only [putAll, Act.put, List.setIfInBounds_toArray, List.set_cons_zero, List.set_cons_succ]; done) | (simp only [putAll, Act.put, List.setIfInBounds_toArray, List.set_cons_zero, List.set_cons_succ]; rfl)) (hJ5_16_17 (sb, (Aq, cq), bm) _ ⟨hHeld, ⟨HBe.out.trans (hb.mono HBe.out.size)⟩, ⟨⟨blk_below H5.out.1 hb, H5.out.2⟩⟩, ⟨hR⟩, ⟨⟨blk_below H17.out.1 hb, H17.out.2⟩⟩⟩)
       ·skip
        rintro ⟨sb, pq⟩ w5_16 ⟨hHeld, HBe, H5, H16⟩
        refine norm_ (a' := ?_) ?_ ?_
        rotate_left
        ·simp only [putAll, Act.put, List.setIfInBounds_toArray, List.set_cons_zero, List.set_cons_succ]
         rfl
        refine two_ (i := 11) (j := 17) (Ni := some 18) (Nj := some 24) #[true, true, true, true, true, true, true, true, true, true, true, true, true, true, true, true, true, false, true, true, true, true, true, true, true, true, false, false, false] #[true, true, true, true, true, true, true, true, true, true, true, false, true, true, true, true, true, true, true, true, true, true, true, true, true, true, false, false, false] rfl rfl rfl rfl (by kernel_rfl) (by decide) (by decide) (fun K hK => ?_) (fun K hK => ?_)
        ·skip
         refine value_ (w1 := ?_) (v := ?_) (by rfl) rfl ?_ ?_
         rotate_left 2
         ·go_simp
          constructor
          ·rfl
          ·rfl
         refine hK.out _ _ (hold7 (below_alloc (Below.refl _ _) _) hHeld) (fun hHeld => ?_)
         clear hK K
         refine norm_ (a' := ?_) ?_ ?_
         rotate_left
         ·show Act.put _ (some 18) _ = _
          simp only [Act.put, List.setIfInBounds_toArray, List.set_cons_zero, List.set_cons_succ, i64_w, i32_w]
          rfl
         exact norm_ (by first | (simp only [putAll, Act.put, List.setIfInBounds_toArray, List.set_cons_zero, List.set_cons_succ]; done) | (simp only [putAll, Act.put, List.setIfInBounds_toArray, List.set_cons_zero, List.set_cons_succ]; rfl)) (hJ5_11_16 (sb, w5_16.heap.size, pq) _ ⟨hHeld, ⟨HBe.out.trans ((below_alloc (Below.refl _ _) _).mono HBe.out.size)⟩, ⟨⟨blk_below H5.out.1 (below_alloc (Below.refl _ _) _), H5.out.2⟩⟩, ⟨⟨blk_new _ _, HBe.out.size⟩⟩, ⟨Kd.R_below H16.out (below_alloc (Below.refl _ _) _)⟩⟩)
        ·skip
         refine value_ (w1 := ?_) (v := ?_) (by rfl) rfl ?_ ?_
         rotate_left 2
         ·go_simp
          constructor
          ·rfl
          ·rfl
         refine hK.out _ _ (hold7 (below_alloc (Below.refl _ _) _) hHeld) (fun hHeld => ?_)
         clear hK K
         refine norm_ (a' := ?_) ?_ ?_
         rotate_left
         ·show Act.put _ (some 24) _ = _
          simp only [Act.put, List.setIfInBounds_toArray, List.set_cons_zero, List.set_cons_succ, i64_w, i32_w]
          rfl
         exact norm_ (by first | (simp only [putAll, Act.put, List.setIfInBounds_toArray, List.set_cons_zero, List.set_cons_succ]; done) | (simp only [putAll, Act.put, List.setIfInBounds_toArray, List.set_cons_zero, List.set_cons_succ]; rfl)) (hJ5_16_17 (sb, pq, w5_16.heap.size) _ ⟨hHeld, ⟨HBe.out.trans ((below_alloc (Below.refl _ _) _).mono HBe.out.size)⟩, ⟨⟨blk_below H5.out.1 (below_alloc (Below.refl _ _) _), H5.out.2⟩⟩, ⟨Kd.R_below H16.out (below_alloc (Below.refl _ _) _)⟩, ⟨⟨blk_new _ _, HBe.out.size⟩⟩⟩)
      ·skip
       rintro ⟨sb, ob⟩ w5_11 ⟨hHeld, HBe, H5, H11⟩
       refine norm_ (a' := ?_) ?_ ?_
       rotate_left
       ·simp only [putAll, Act.put, List.setIfInBounds_toArray, List.set_cons_zero, List.set_cons_succ]
        rfl
       refine two_ (i := 16) (j := 17) (Ni := some 23) (Nj := some 24) #[true, true, true, true, true, true, true, true, true, true, true, true, true, true, true, true, true, false, true, true, true, true, true, true, true, true, false, false, false] #[true, true, true, true, true, true, true, true, true, true, true, true, true, true, true, true, false, true, true, true, true, true, true, true, true, true, false, false, false] rfl rfl rfl rfl (by kernel_rfl) (by decide) (by decide) (fun K hK => ?_) (fun K hK => ?_)
       ·skip
        refine goes_ Try.func44 (by kernel_rfl) rfl #[.slice Ap np cp] (by rfl) rfl rfl (by simp only [List.map_toArray, List.map_cons, List.map_nil]; rfl) ?_
        with_reducible refine (HCL.out _ HBe.out).mono ?_
        rintro e w3 ⟨Aq, cq, rfl, hR, hb⟩
        refine ⟨_, rfl, ?_⟩
        refine hK.out _ _ (hold7 hb hHeld) (fun hHeld => ?_)
        clear hK K
        refine norm_ (a' := ?_) ?_ ?_
        rotate_left
        ·show Act.put _ (some 23) _ = _
         simp only [Act.put, List.setIfInBounds_toArray, List.set_cons_zero, List.set_cons_succ, i64_w, i32_w]
         rfl
        exact norm_ (by first | (simp only [putAll, Act.put, List.setIfInBounds_toArray, List.set_cons_zero, List.set_cons_succ]; done) | (simp only [putAll, Act.put, List.setIfInBounds_toArray, List.set_cons_zero, List.set_cons_succ]; rfl)) (hJ5_11_16 (sb, ob, (Aq, cq)) _ ⟨hHeld, ⟨HBe.out.trans (hb.mono HBe.out.size)⟩, ⟨⟨blk_below H5.out.1 hb, H5.out.2⟩⟩, ⟨⟨blk_below H11.out.1 hb, H11.out.2⟩⟩, ⟨hR⟩⟩)
       ·skip
        refine value_ (w1 := ?_) (v := ?_) (by rfl) rfl ?_ ?_
        rotate_left 2
        ·go_simp
         constructor
         ·rfl
         ·rfl
        refine hK.out _ _ (hold7 (below_alloc (Below.refl _ _) _) hHeld) (fun hHeld => ?_)
        clear hK K
        refine norm_ (a' := ?_) ?_ ?_
        rotate_left
        ·show Act.put _ (some 24) _ = _
         simp only [Act.put, List.setIfInBounds_toArray, List.set_cons_zero, List.set_cons_succ, i64_w, i32_w]
         rfl
        exact norm_ (by first | (simp only [putAll, Act.put, List.setIfInBounds_toArray, List.set_cons_zero, List.set_cons_succ]; done) | (simp only [putAll, Act.put, List.setIfInBounds_toArray, List.set_cons_zero, List.set_cons_succ]; rfl)) (hJ5_11_17 (sb, ob, w5_11.heap.size) _ ⟨hHeld, ⟨HBe.out.trans ((below_alloc (Below.refl _ _) _).mono HBe.out.size)⟩, ⟨⟨blk_below H5.out.1 (below_alloc (Below.refl _ _) _), H5.out.2⟩⟩, ⟨⟨blk_below H11.out.1 (below_alloc (Below.refl _ _) _), H11.out.2⟩⟩, ⟨⟨blk_new _ _, HBe.out.size⟩⟩⟩)
     ·skip
      rintro ⟨ob, pq, bm⟩ w11_16_17 ⟨hHeld, HBe, H11, H16, H17⟩
      refine norm_ (a' := ?_) ?_ ?_
      rotate_left
      ·simp only [putAll, Act.put, List.setIfInBounds_toArray, List.set_cons_zero, List.set_cons_succ]
       rfl
      refine one_ (i := 5) (N := some 12) #[true, true, true, true, true, true, true, true, true, true, true, true, true, true, true, true, true, true, true, true, true, true, true, true, true, true, false, false, false] rfl rfl (by kernel_rfl) (by decide) (fun K hK => ?_)
      refine value_ (w1 := ?_) (v := ?_) (by rfl) rfl ?_ ?_
      rotate_left 2
      ·go_simp
       constructor
       ·rfl
       ·rfl
      refine hK.out _ _ (hold7 (below_alloc (Below.refl _ _) _) hHeld) (fun hHeld => ?_)
      clear hK K
      refine norm_ (a' := ?_) ?_ ?_
      rotate_left
      ·show Act.put _ (some 12) _ = _
       simp only [Act.put, List.setIfInBounds_toArray, List.set_cons_zero, List.set_cons_succ, i64_w, i32_w]
       rfl
      exact norm_ (by first | (simp only [putAll, Act.put, List.setIfInBounds_toArray, List.set_cons_zero, List.set_cons_succ]; done) | (simp only [putAll, Act.put, List.setIfInBounds_toArray, List.set_cons_zero, List.set_cons_succ]; rfl)) (hJ5_11_16_17 (w11_16_17.heap.size, ob, pq, bm) _ ⟨hHeld, ⟨HBe.out.trans ((below_alloc (Below.refl _ _) _).mono HBe.out.size)⟩, ⟨⟨blk_new _ _, HBe.out.size⟩⟩, ⟨⟨blk_below H11.out.1 (below_alloc (Below.refl _ _) _), H11.out.2⟩⟩, ⟨Kd.R_below H16.out (below_alloc (Below.refl _ _) _)⟩, ⟨⟨blk_below H17.out.1 (below_alloc (Below.refl _ _) _), H17.out.2⟩⟩⟩)
    ·skip
     rintro ⟨sb, pq, bm⟩ w5_16_17 ⟨hHeld, HBe, H5, H16, H17⟩
     refine norm_ (a' := ?_) ?_ ?_
     rotate_left
     ·simp only [putAll, Act.put, List.setIfInBounds_toArray, List.set_cons_zero, List.set_cons_succ]
      rfl
     refine one_ (i := 11) (N := some 18) #[true, true, true, true, true, true, true, true, true, true, true, true, true, true, true, true, true, true, true, true, true, true, true, true, true, true, false, false, false] rfl rfl (by kernel_rfl) (by decide) (fun K hK => ?_)
     refine value_ (w1 := ?_) (v := ?_) (by rfl) rfl ?_ ?_
     rotate_left 2
     ·go_simp
      constructor
      ·rfl
      ·rfl
     refine hK.out _ _ (hold7 (below_alloc (Below.refl _ _) _) hHeld) (fun hHeld => ?_)
     clear hK K
     refine norm_ (a' := ?_) ?_ ?_
     rotate_left
     ·show Act.put _ (some 18) _ = _
      simp only [Act.put, List.setIfInBounds_toArray, List.set_cons_zero, List.set_cons_succ, i64_w, i32_w]
      rfl
     exact norm_ (by first | (simp only [putAll, Act.put, List.setIfInBounds_toArray, List.set_cons_zero, List.set_cons_succ]; done) | (simp only [putAll, Act.put, List.setIfInBounds_toArray, List.set_cons_zero, List.set_cons_succ]; rfl)) (hJ5_11_16_17 (sb, w5_16_17.heap.size, pq, bm) _ ⟨hHeld, ⟨HBe.out.trans ((below_alloc (Below.refl _ _) _).mono HBe.out.size)⟩, ⟨⟨blk_below H5.out.1 (below_alloc (Below.refl _ _) _), H5.out.2⟩⟩, ⟨⟨blk_new _ _, HBe.out.size⟩⟩, ⟨Kd.R_below H16.out (below_alloc (Below.refl _ _) _)⟩, ⟨⟨blk_below H17.out.1 (below_alloc (Below.refl _ _) _), H17.out.2⟩⟩⟩)
   ·skip
    rintro ⟨sb, ob, bm⟩ w5_11_17 ⟨hHeld, HBe, H5, H11, H17⟩
    refine norm_ (a' := ?_) ?_ ?_
    rotate_left
    ·simp only [putAll, Act.put, List.setIfInBounds_toArray, List.set_cons_zero, List.set_cons_succ]
     rfl
    refine one_ (i := 16) (N := some 23) #[true, true, true, true, true, true, true, true, true, true, true, true, true, true, true, true, true, true, true, true, true, true, true, true, true, true, false, false, false] rfl rfl (by kernel_rfl) (by decide) (fun K hK => ?_)
    refine goes_ Try.func44 (by kernel_rfl) rfl #[.slice Ap np cp] (by rfl) rfl rfl (by simp only [List.map_toArray, List.map_cons, List.map_nil]; rfl) ?_
    with_reducible refine (HCL.out _ HBe.out).mono ?_
    rintro e w3 ⟨Aq, cq, rfl, hR, hb⟩
    refine ⟨_, rfl, ?_⟩
    refine hK.out _ _ (hold7 hb hHeld) (fun hHeld => ?_)
    clear hK K
    refine norm_ (a' := ?_) ?_ ?_
    rotate_left
    ·show Act.put _ (some 23) _ = _
     simp only [Act.put, List.setIfInBounds_toArray, List.set_cons_zero, List.set_cons_succ, i64_w, i32_w]
     rfl
    exact norm_ (by first | (simp only [putAll, Act.put, List.setIfInBounds_toArray, List.set_cons_zero, List.set_cons_succ]; done) | (simp only [putAll, Act.put, List.setIfInBounds_toArray, List.set_cons_zero, List.set_cons_succ]; rfl)) (hJ5_11_16_17 (sb, ob, (Aq, cq), bm) _ ⟨hHeld, ⟨HBe.out.trans (hb.mono HBe.out.size)⟩, ⟨⟨blk_below H5.out.1 hb, H5.out.2⟩⟩, ⟨⟨blk_below H11.out.1 hb, H11.out.2⟩⟩, ⟨hR⟩, ⟨⟨blk_below H17.out.1 hb, H17.out.2⟩⟩⟩)
  ·skip
   rintro ⟨sb, ob, pq⟩ w5_11_16 ⟨hHeld, HBe, H5, H11, H16⟩
   refine norm_ (a' := ?_) ?_ ?_
   rotate_left
   ·simp only [putAll, Act.put, List.setIfInBounds_toArray, List.set_cons_zero, List.set_cons_succ]
    rfl
   refine one_ (i := 17) (N := some 24) #[true, true, true, true, true, true, true, true, true, true, true, true, true, true, true, true, true, true, true, true, true, true, true, true, true, true, false, false, false] rfl rfl (by kernel_rfl) (by decide) (fun K hK => ?_)
   refine value_ (w1 := ?_) (v := ?_) (by rfl) rfl ?_ ?_
   rotate_left 2
   ·go_simp
    constructor
    ·rfl
    ·rfl
   refine hK.out _ _ (hold7 (below_alloc (Below.refl _ _) _) hHeld) (fun hHeld => ?_)
   clear hK K
   refine norm_ (a' := ?_) ?_ ?_
   rotate_left
   ·show Act.put _ (some 24) _ = _
    simp only [Act.put, List.setIfInBounds_toArray, List.set_cons_zero, List.set_cons_succ, i64_w, i32_w]
    rfl
   exact norm_ (by first | (simp only [putAll, Act.put, List.setIfInBounds_toArray, List.set_cons_zero, List.set_cons_succ]; done) | (simp only [putAll, Act.put, List.setIfInBounds_toArray, List.set_cons_zero, List.set_cons_succ]; rfl)) (hJ5_11_16_17 (sb, ob, pq, w5_11_16.heap.size) _ ⟨hHeld, ⟨HBe.out.trans ((below_alloc (Below.refl _ _) _).mono HBe.out.size)⟩, ⟨⟨blk_below H5.out.1 (below_alloc (Below.refl _ _) _), H5.out.2⟩⟩, ⟨⟨blk_below H11.out.1 (below_alloc (Below.refl _ _) _), H11.out.2⟩⟩, ⟨Kd.R_below H16.out (below_alloc (Below.refl _ _) _)⟩, ⟨⟨blk_new _ _, HBe.out.size⟩⟩⟩)
 rintro ⟨sb, ob, pq, bm⟩ w5_11_16_17 ⟨hHeld, HBe, H5, H11, H16, H17⟩
 refine norm_ (a' := ?_) ?_ ?_
 rotate_left
 ·simp only [putAll, Act.put, List.setIfInBounds_toArray, List.set_cons_zero, List.set_cons_succ]
  rfl
 refine pure_ (i := 26) (N := some 33) (v := ?_) (a' := ?_) #[true, true, true, true, true, true, true, true, true, true, true, true, true, true, true, true, true, true, true, true, true, true, true, true, true, true, true, false, false] rfl rfl (by kernel_rfl) (fun _ _ _ h => h) (Or.inl ⟨by rfl, ?_⟩) ?_ ?_
 rotate_left
 ·intro w'
  go_simp
  with_reducible rfl
 rotate_left
 ·simp only [Act.put, List.setIfInBounds_toArray, List.set_cons_zero, List.set_cons_succ, i64_w, i32_w]
  rfl
 refine one_ (i := 27) (N := some 34) #[true, true, true, true, true, true, true, true, true, true, true, true, true, true, true, true, true, true, true, true, true, true, true, true, true, true, true, true, false] rfl rfl (by kernel_rfl) (by decide) (fun K hK => ?_)
 refine value_ (w1 := ?_) (v := ?_) (by rfl) rfl ?_ ?_
 rotate_left 2
 ·go_simp
  constructor
  ·rfl
  ·rfl
 refine hK.out _ _ (hold7 (below_alloc (Below.refl _ _) _) hHeld) (fun hHeld => ?_)
 clear hK K
 refine norm_ (a' := ?_) ?_ ?_
 rotate_left
 ·show Act.put _ (some 34) _ = _
  simp only [Act.put, List.setIfInBounds_toArray, List.set_cons_zero, List.set_cons_succ, i64_w, i32_w]
  rfl
 refine pure_ (i := 28) (N := some 3) (v := ?_) (a' := ?_) #[true, true, true, true, true, true, true, true, true, true, true, true, true, true, true, true, true, true, true, true, true, true, true, true, true, true, true, true, true] rfl rfl (by kernel_rfl) (fun _ _ _ h => h) (Or.inl ⟨by rfl, ?_⟩) ?_ ?_
 rotate_left
 ·intro w'
  go_simp
  with_reducible rfl
 rotate_left
 ·simp only [Act.put, List.setIfInBounds_toArray, List.set_cons_zero, List.set_cons_succ, i64_w, i32_w]
  rfl
 refine done_ (by kernel_rfl) ?_
 obtain ⟨g, hgg⟩ : ∃ g, g = w5_11_16_17.heap.size := ⟨_, rfl⟩
 obtain ⟨w1, hw1⟩ : ∃ w1, w1 = w5_11_16_17.alloc (.cells #[.slice (some ⟨sb, 0, none⟩) n n, .slice (some ⟨ob, 0, none⟩) n n, .slice pq.1 np pq.2, .map (some bm), .bool fs, .int .i64 fl, .slice Au nu cu, .bool fd] 81) := ⟨_, rfl⟩
 have FG := Aside0.mk (show w1.heap[g]? = some (.cells #[.slice (some ⟨sb, 0, none⟩) n n, .slice (some ⟨ob, 0, none⟩) n n, .slice pq.1 np pq.2, .map (some bm), .bool fs, .int .i64 fl, .slice Au nu cu, .bool fd] 81 (0, 0)) by rw [hw1, hgg]; exact blk_new _ _)
 have hb1 : Below w5_11_16_17.heap.size w5_11_16_17 w1 := by rw [hw1]; exact below_alloc (Below.refl _ _) _
 have HB1 := Aside0.mk (HBe.out.trans (hb1.mono HBe.out.size))
 have FS := Aside0.mk (blk_below H5.out.1 hb1)
 have FO := Aside0.mk (blk_below H11.out.1 hb1)
 have FM := Aside0.mk (blk_below H17.out.1 hb1)
 have FP := Aside0.mk (Kd.R_below H16.out hb1)
 have GE := Aside0.mk (show W.heap.size ≤ g ∧ W.heap.size ≤ sb ∧ W.heap.size ≤ ob ∧ W.heap.size ≤ bm from ⟨by rw [hgg]; exact HBe.out.size, H5.out.2, H11.out.2, H17.out.2⟩)
 rw [← hw1, ← hgg]
 clear hm1 hm2 hk hb1 hw1 hgg H5 H11 H16 H17 HBe HCL hHeld c0 c1 c2 c4 c5 c6 c7
 go_wp2_with fail
 obtain ⟨w2, hcp, fs2, hg2⟩ := copy_strs w1.drew sb L.sb n (List.replicate n ⟨#[]⟩) S.stable FS.out ((HSRC.out _ HB1.out.drew).hs) (by simp) EQS.out.1.symm
 have FS2 := Aside0.mk fs2
 have HG2 := Aside0.mk hg2
 have p0 : w1.cell? ⟨g, 0, none⟩ = some (.slice (some ⟨sb, 0, none⟩) n n) := by rw [blk_cell FG.out]; rfl
 have d0 : w1.cell? ⟨L.g, 0, none⟩ = some (.slice (some ⟨L.sb, 0, none⟩) n n) := by have := (HSRC.out _ HB1.out).c0; rw [← EQS.out.1] at this; exact this
 clear fs2 hg2
 refine start_ (n := 9) (S := fun w' => w'.cell? ⟨g, 0, none⟩ = some (.slice (some ⟨sb, 0, none⟩) n n) ∧ w'.cell? ⟨L.g, 0, none⟩ = some (.slice (some ⟨L.sb, 0, none⟩) n n)) (ds := [8]) #[false, false, false, false, false, false, false, false, false] (by kernel_rfl) rfl rfl ⟨p0, d0⟩ (fun hHeld => ?_)
 refine pure_ (i := 0) (N := some 35) (v := ?_) (a' := ?_) #[true, false, false, false, false, false, false, false, false] rfl rfl (by kernel_rfl) (fun _ _ _ h => h) (Or.inl ⟨by rfl, ?_⟩) ?_ ?_
 rotate_left
 ·intro w'
  go_simp
  with_reducible rfl
 rotate_left
 ·simp only [Act.put, List.setIfInBounds_toArray, List.set_cons_zero, List.set_cons_succ, i64_w, i32_w]
  rfl
 refine pure_ (i := 1) (N := some 36) (v := ?_) (a' := ?_) #[true, true, false, false, false, false, false, false, false] rfl rfl (by kernel_rfl) (fun _ _ _ h => h) (Or.inl ⟨by rfl, ?_⟩) ?_ ?_
 rotate_left
 ·intro w'
  go_simp
  with_reducible rfl
 rotate_left
 ·simp only [Act.put, List.setIfInBounds_toArray, List.set_cons_zero, List.set_cons_succ, i64_w, i32_w]
  rfl
 refine pure_ (i := 2) (N := some 37) (v := ?_) (a' := ?_) #[true, true, true, false, false, false, false, false, false] rfl rfl (by kernel_rfl) (fun _ _ _ h => h) (Or.inl ⟨by rfl, ?_⟩) ?_ ?_
 rotate_left
 ·intro w'
  go_simp
  with_reducible rfl
 rotate_left
 ·simp only [Act.put, List.setIfInBounds_toArray, List.set_cons_zero, List.set_cons_succ, i64_w, i32_w]
  rfl
 refine pure_ (i := 4) (N := some 39) (v := ?_) (a' := ?_) #[true, true, true, false, true, false, false, false, false] rfl rfl (by kernel_rfl) (fun _ _ _ h => h) (Or.inl ⟨by rfl, ?_⟩) ?_ ?_
 rotate_left
 ·intro w'
  go_simp
  with_reducible rfl
 rotate_left
 ·simp only [Act.put, List.setIfInBounds_toArray, List.set_cons_zero, List.set_cons_succ, i64_w, i32_w]
  rfl
 refine pure_ (i := 5) (N := some 40) (v := ?_) (a' := ?_) #[true, true, true, false, true, true, false, false, false] rfl rfl (by kernel_rfl) (fun _ _ _ h => h) (Or.inl ⟨by rfl, ?_⟩) ?_ ?_
 rotate_left
 ·intro w'
  go_simp
  with_reducible rfl
 rotate_left
 ·simp only [Act.put, List.setIfInBounds_toArray, List.set_cons_zero, List.set_cons_succ, i64_w, i32_w]
  rfl
 refine pure_ (i := 6) (N := some 41) (v := ?_) (a' := ?_) #[true, true, true, false, true, true, true, false, false] rfl rfl (by kernel_rfl) (fun _ _ _ h => h) (Or.inl ⟨by rfl, ?_⟩) ?_ ?_
 rotate_left
 ·intro w'
  go_simp
  with_reducible rfl
 rotate_left
 ·simp only [Act.put, List.setIfInBounds_toArray, List.set_cons_zero, List.set_cons_succ, i64_w, i32_w]
  rfl
 refine take_ (i := 3) (N := some 38) (v := ?_) (a' := ?_) #[true, true, true, true, true, true, true, false, false] rfl rfl (by kernel_rfl) (fun _ _ _ h => h) (Or.inl ⟨by rfl, ?_⟩) hHeld ?_ ?_
 rotate_left
 ·rintro w' ⟨s0, s1⟩
  go_simp
  with_reducible rfl
 rotate_left
 ·simp only [Act.put, List.setIfInBounds_toArray, List.set_cons_zero, List.set_cons_succ, i64_w, i32_w]
  rfl
 refine take_ (i := 7) (N := some 42) (v := ?_) (a' := ?_) #[true, true, true, true, true, true, true, true, false] rfl rfl (by kernel_rfl) (fun _ _ _ h => h) (Or.inl ⟨by rfl, ?_⟩) hHeld ?_ ?_
 rotate_left
 ·rintro w' ⟨s0, s1⟩
  go_simp
  with_reducible rfl
 rotate_left
 ·simp only [Act.put, List.setIfInBounds_toArray, List.set_cons_zero, List.set_cons_succ, i64_w, i32_w]
  rfl
 refine last_ (i := 8) (N := some 43) #[true, true, true, true, true, true, true, true, true] rfl rfl (by kernel_rfl) (by decide) (fun K hK => ?_)
 refine value_ (w1 := ?_) (v := ?_) (by rfl) rfl ?_ ?_
 rotate_left 2
 ·go_simp
  constructor
  ·rfl
  ·rfl
 refine hK.out _ _ ?_
 clear hK K
 refine norm_ (a' := ?_) ?_ ?_
 rotate_left
 ·show Act.put _ (some 43) _ = _
  simp only [Act.put, List.setIfInBounds_toArray, List.set_cons_zero, List.set_cons_succ, i64_w, i32_w]
  rfl
 refine done_ (by kernel_rfl) ?_
 have HB3 := Aside0.mk (show Below W.heap.size W w2 from HB1.out.drew.grown HG2.out HB1.out.drew.size (fun j hj => by cases hj; exact GE.out.2.1))
 have FG3 := Aside0.mk (show w2.heap[g]? = some (.cells #[.slice (some ⟨sb, 0, none⟩) n n, .slice (some ⟨ob, 0, none⟩) n n, .slice pq.1 np pq.2, .map (some bm), .bool fs, .int .i64 fl, .slice Au nu cu, .bool fd] 81 (0, 0)) from (HG2.out.block g (show g < w1.drew.heap.size from blk_lt FG.out) (fun e => blk_ne FG.out FS.out (by decide) (Option.some.inj e))).trans FG.out)
 have FO3 := Aside0.mk (show w2.heap[ob]? = some (.cells (nils n) 26 (0, 0)) from (HG2.out.block ob (show ob < w1.drew.heap.size from blk_lt FO.out) (fun e => blk_ne FO.out FS.out (by decide) (Option.some.inj e))).trans FO.out)
 have FM3 := Aside0.mk (show w2.heap[bm]? = some (.map #[] 0) from (HG2.out.block bm (show bm < w1.drew.heap.size from blk_lt FM.out) (fun e => by have h1 := FM.out; rw [Option.some.inj e] at h1; have h2 := h1.symm.trans FS.out; cases h2)).trans FM.out)
 have FP3 := Aside0.mk (show Kd.R k99 84 w2 W.heap.size (fun k => W.heap.size ≤ k) (.slice pq.1 np pq.2) xs from Kd.R_mono (Kd.R_step (Kd.R_types (show Kd.R k99 84 w1.drew W.heap.size (fun k => W.heap.size ≤ k) (.slice pq.1 np pq.2) xs from Kd.R_below FP.out (Below.refl _ _).drew) (show w1.drew.heap[sb]? = some (.cells (strs (List.replicate n ⟨#[]⟩)) 9 (0, 0)) from FS.out) (by decide)) (fun k hk hlt => HG2.out.block k hlt (fun e => hk.2 (Option.some.inj e)))) (fun k hk => hk.1))
 clear HB1 FG FO FM FP FS HG2 hcp p0 d0 hHeld
 have c1 : w2.cell? ⟨L.g, 1, none⟩ = some (.slice (some ⟨L.ob, 0, none⟩) n n) := by have := (HSRC.out _ HB3.out).c1; rw [← EQS.out.1] at this; exact this
 have hnl : (nils n).toList.length = n := by unfold nils; simp
 go_wp2_with fail
 go_loopg [4, 49] n (fun gg _ s49 wr => ∃ (j : Nat) (vs' : List Value), s49 = .int .i64 j ∧ j ≤ n ∧ n - j ≤ gg ∧ Aside0 (vs'.length = n) ∧ Aside0 (wr.heap[ob]? = some (.cells vs'.toArray 26 (0, 0))) ∧
  Aside0 (∀ i v x, i < j → vs'[i]? = some v → S.old[i]? = some x → Kd.R Kd.string 9 wr w2.heap.size (fun k => w2.heap.size ≤ k) v x) ∧ Aside0 (Kept w2 wr (fun k => k = ob)) ∧ Aside0 (Below W.heap.size W wr))
 case atStart => exact ⟨0, (nils n).toList, by go_num, Nat.zero_le _, by omega, ⟨hnl⟩, ⟨by rw [FO3.out]⟩, ⟨fun i v x hi => by omega⟩, ⟨Kept.refl _ _⟩, HB3⟩
 case round =>
  clear c1 hnl
  obtain ⟨j, vs', rfl, hj, hgg, HVL, HXO, HRW, HKE, HBW⟩ := hrel
  have GGO := Aside0.mk (show g ≠ ob from blk_ne FG3.out FO3.out (by decide))
  have HGW := Aside0.mk (blk_kept FG3.out HKE.out GGO.out)
  by_cases hlt : j < n
  ·have hltz : (j : Int) < (n : Int) := by omega
   have hjo : j < S.old.length := by have := EQS.out.2.2.2.2.2.2.2; omega
   obtain ⟨Aj, cj, co, hxc, hxF, hvs⟩ := (HSRC.out _ HBW.out).co j hjo
   obtain ⟨x, hx⟩ : ∃ x, x = S.old[j] := ⟨_, rfl⟩
   have hx8 : x.length ≤ 1000000 := by rw [hx]; exact Nat.le_trans (HFI.out.olen _ (List.getElem_mem hjo)) (by decide)
   rw [← hx] at co hxc hxF
   have HXE := Aside0.mk (show S.old[j]? = some x by rw [hx]; exact List.getElem?_eq_getElem hjo)
   have HC5 := Aside0.mk (fun (w : World) (hb : Below wr.heap.size wr w) => clone45 w Aj cj x (Kd.C_below (Kd.F_now hxF) hb) hx8)
   obtain ⟨nx, hnx⟩ : ∃ nx, nx = x.length := ⟨_, rfl⟩
   rw [← hnx] at co HC5
   have q1 : wr.cell? ⟨g, 1, none⟩ = some (.slice (some ⟨ob, 0, none⟩) n n) := by rw [blk_cell HGW.out]; rfl
   have d1 : wr.cell? ⟨L.g, 1, none⟩ = some (.slice (some ⟨L.ob, 0, none⟩) n n) := by have := (HSRC.out _ HBW.out).c1; rw [← EQS.out.1] at this; exact this
   have HBD := Aside0.mk (show Below wr.heap.size wr wr.drew from (Below.refl _ _).drew)
   clear hx hxc hxF hnx hx8 hvs hjo
   go_wp2_with fail
   refine start_ (n := 15) (S := fun w' => w'.cell? ⟨g, 1, none⟩ = some (.slice (some ⟨ob, 0, none⟩) n n) ∧ w'.cell? ⟨L.g, 1, none⟩ = some (.slice (some ⟨L.ob, 0, none⟩) n n) ∧ w'.cell? ⟨L.ob, j, none⟩ = some (.slice Aj nx cj)) (ds := [14]) #[false, false, false, false, false, false, false, false, false, false, false, false, false, false, false] (by kernel_rfl) rfl rfl ⟨q1, d1, co⟩ (fun hHeld => ?_)
   refine pure_ (i := 0) (N := some 52) (v := ?_) (a' := ?_) #[true, false, false, false, false, false, false, false, false, false, false, false, false, false, false] rfl rfl (by kernel_rfl) (fun _ _ _ h => h) (Or.inl ⟨by rfl, ?_⟩) ?_ ?_
   rotate_left
   ·intro w'
    go_simp
    with_reducible rfl
   rotate_left
   ·simp only [Act.put, List.setIfInBounds_toArray, List.set_cons_zero, List.set_cons_succ, i64_w, i32_w]
    rfl
   refine pure_ (i := 1) (N := some 53) (v := ?_) (a' := ?_) #[true, true, false, false, false, false, false, false, false, false, false, false, false, false, false] rfl rfl (by kernel_rfl) (fun _ _ _ h => h) (Or.inl ⟨by rfl, ?_⟩) ?_ ?_
   rotate_left
   ·intro w'
    go_simp
    with_reducible rfl
   rotate_left
   ·simp only [Act.put, List.setIfInBounds_toArray, List.set_cons_zero, List.set_cons_succ, i64_w, i32_w]
    rfl
   refine pure_ (i := 2) (N := some 54) (v := ?_) (a' := ?_) #[true, true, true, false, false, false, false, false, false, false, false, false, false, false, false] rfl rfl (by kernel_rfl) (fun _ _ _ h => h) (Or.inl ⟨by rfl, ?_⟩) ?_ ?_
   rotate_left
   ·intro w'
    go_simp
    with_reducible rfl
   rotate_left
   ·simp only [Act.put, List.setIfInBounds_toArray, List.set_cons_zero, List.set_cons_succ, i64_w, i32_w]
    rfl
   refine pure_ (i := 4) (N := some 56) (v := ?_) (a' := ?_) #[true, true, true, false, true, false, false, false, false, false, false, false, false, false, false] rfl rfl (by kernel_rfl) (fun _ _ _ h => h) (Or.inl ⟨by rfl, ?_⟩) ?_ ?_
   rotate_left
   ·intro w'
    go_simp
    with_reducible rfl
   rotate_left
   ·simp only [Act.put, List.setIfInBounds_toArray, List.set_cons_zero, List.set_cons_succ, i64_w, i32_w]
    rfl
   refine pure_ (i := 5) (N := some 57) (v := ?_) (a' := ?_) #[true, true, true, false, true, true, false, false, false, false, false, false, false, false, false] rfl rfl (by kernel_rfl) (fun _ _ _ h => h) (Or.inl ⟨by rfl, ?_⟩) ?_ ?_
   rotate_left
   ·intro w'
    go_simp
    with_reducible rfl
   rotate_left
   ·simp only [Act.put, List.setIfInBounds_toArray, List.set_cons_zero, List.set_cons_succ, i64_w, i32_w]
    rfl
   refine pure_ (i := 6) (N := some 58) (v := ?_) (a' := ?_) #[true, true, true, false, true, true, true, false, false, false, false, false, false, false, false] rfl rfl (by kernel_rfl) (fun _ _ _ h => h) (Or.inl ⟨by rfl, ?_⟩) ?_ ?_
   rotate_left
   ·intro w'
    go_simp
    with_reducible rfl
   rotate_left
   ·simp only [Act.put, List.setIfInBounds_toArray, List.set_cons_zero, List.set_cons_succ, i64_w, i32_w]
    rfl
   refine pure_ (i := 7) (N := some 59) (v := ?_) (a' := ?_) #[true, true, true, false, true, true, true, true, false, false, false, false, false, false, false] rfl rfl (by kernel_rfl) (fun _ _ _ h => h) (Or.inl ⟨by rfl, ?_⟩) ?_ ?_
   rotate_left
   ·intro w'
    go_simp
    with_reducible rfl
   rotate_left
   ·simp only [Act.put, List.setIfInBounds_toArray, List.set_cons_zero, List.set_cons_succ, i64_w, i32_w]
    rfl
   refine pure_ (i := 9) (N := some 61) (v := ?_) (a' := ?_) #[true, true, true, false, true, true, true, true, false, true, false, false, false, false, false] rfl rfl (by kernel_rfl) (fun _ _ _ h => h) (Or.inl ⟨by rfl, ?_⟩) ?_ ?_
   rotate_left
   ·intro w'
    go_simp
    with_reducible rfl
   rotate_left
   ·simp only [Act.put, List.setIfInBounds_toArray, List.set_cons_zero, List.set_cons_succ, i64_w, i32_w]
    rfl
   refine take_ (i := 3) (N := some 55) (v := ?_) (a' := ?_) #[true, true, true, true, true, true, true, true, false, true, false, false, false, false, false] rfl rfl (by kernel_rfl) (fun _ _ _ h => h) (Or.inl ⟨by rfl, ?_⟩) hHeld ?_ ?_
   rotate_left
   ·rintro w' ⟨s0, s1, s2⟩
    go_simp
    with_reducible rfl
   rotate_left
   ·simp only [Act.put, List.setIfInBounds_toArray, List.set_cons_zero, List.set_cons_succ, i64_w, i32_w]
    rfl
   refine take_ (i := 8) (N := some 60) (v := ?_) (a' := ?_) #[true, true, true, true, true, true, true, true, true, true, false, false, false, false, false] rfl rfl (by kernel_rfl) (fun _ _ _ h => h) (Or.inl ⟨by rfl, ?_⟩) hHeld ?_ ?_
   rotate_left
   ·rintro w' ⟨s0, s1, s2⟩
    go_simp
    with_reducible rfl
   rotate_left
   ·simp only [Act.put, List.setIfInBounds_toArray, List.set_cons_zero, List.set_cons_succ, i64_w, i32_w]
    rfl
   refine pure_ (i := 10) (N := some 62) (v := ?_) (a' := ?_) #[true, true, true, true, true, true, true, true, true, true, true, false, false, false, false] rfl rfl (by kernel_rfl) (fun _ _ _ h => h) (Or.inl ⟨by rfl, ?_⟩) ?_ ?_
   rotate_left
   ·intro w'
    go_simp
    with_reducible rfl
   rotate_left
   ·simp only [Act.put, List.setIfInBounds_toArray, List.set_cons_zero, List.set_cons_succ, i64_w, i32_w]
    rfl
   refine take_ (i := 11) (N := some 63) (v := ?_) (a' := ?_) #[true, true, true, true, true, true, true, true, true, true, true, true, false, false, false] rfl rfl (by kernel_rfl) (fun _ _ _ h => h) (Or.inl ⟨by rfl, ?_⟩) hHeld ?_ ?_
   rotate_left
   ·rintro w' ⟨s0, s1, s2⟩
    go_simp
    with_reducible rfl
   rotate_left
   ·simp only [Act.put, List.setIfInBounds_toArray, List.set_cons_zero, List.set_cons_succ, i64_w, i32_w]
    rfl
   refine one_ (i := 12) (N := some 64) #[true, true, true, true, true, true, true, true, true, true, true, true, true, false, false] rfl rfl (by kernel_rfl) (by decide) (fun K hK => ?_)
   refine goes_ Try.func45 (by kernel_rfl) rfl #[.slice Aj nx cj] (by rfl) rfl rfl (by simp only [List.map_toArray, List.map_cons, List.map_nil]; rfl) ?_
   with_reducible refine (HC5.out _ HBD.out).mono ?_
   rintro e w5 ⟨v5, rfl, hR5, hb5⟩
   refine ⟨_, rfl, ?_⟩
   have HR5 := Aside0.mk hR5
   have HB5 := Aside0.mk (show Below wr.heap.size wr w5 from HBD.out.trans (hb5.mono (Nat.le_refl _)))
   have fo5 : w5.frozen? ⟨ob, j, none⟩ = false := blk_frozen (blk_below HXO.out HB5.out) j
   have co5 : w5.cell? ⟨ob, j, none⟩ = some (vs'[j]'(by have := HVL.out; omega)) := by rw [blk_cell (blk_below HXO.out HB5.out)]; simp
   obtain ⟨A5, c5, hv5⟩ := Kd.R_slice hR5
   subst hv5
   clear hR5 hb5
   refine hK.out _ _ ⟨((HB5.out.cell (World.block_lt_of_cell? _ _ q1)).trans q1), ((HB5.out.cell (World.block_lt_of_cell? _ _ d1)).trans d1), ((HB5.out.cell (World.block_lt_of_cell? _ _ co)).trans co)⟩ (fun hHeld => ?_)
   clear hK K
   refine norm_ (a' := ?_) ?_ ?_
   rotate_left
   ·show Act.put _ (some 64) _ = _
    simp only [Act.put, List.setIfInBounds_toArray, List.set_cons_zero, List.set_cons_succ, i64_w, i32_w]
    rfl
   refine pure_ (i := 13) (N := some 65) (v := ?_) (a' := ?_) #[true, true, true, true, true, true, true, true, true, true, true, true, true, true, false] rfl rfl (by kernel_rfl) (fun _ _ _ h => h) (Or.inl ⟨by rfl, ?_⟩) ?_ ?_
   rotate_left
   ·intro w'
    go_simp
    with_reducible rfl
   rotate_left
   ·simp only [Act.put, List.setIfInBounds_toArray, List.set_cons_zero, List.set_cons_succ, i64_w, i32_w]
    rfl
   refine last_ (i := 14) (N := none) #[true, true, true, true, true, true, true, true, true, true, true, true, true, true, true] rfl rfl (by kernel_rfl) (by decide) (fun K hK => ?_)
   refine skip_ (w1 := ?_) (by rfl) rfl ?_ ?_
   rotate_left
   ·go_simp
    rfl
   refine hK.out _ _ ?_
   clear hK K
   refine done_ (by kernel_rfl) ?_
   clear hHeld q1 d1 co fo5 co5 HC5 HBD
   go_wp2_with fail
   go_roundg (n - (j + 1))
   case measure => omega
   case rel =>
    have hle2 : w2.heap.size ≤ wr.heap.size := HKE.out.1
    have hob2 : ob < w2.heap.size := blk_lt FO3.out
    have hst : ∀ k, w2.heap.size ≤ k → k < wr.heap.size → (w5.setCell ⟨ob, j, none⟩ (.slice A5 x.length c5)).heap[k]? = wr.heap[k]? := fun k hk hlt => (Below.heap_setCell _ _ _ _ (by show k ≠ ob; omega)).trans (HB5.out.block k hlt)
    have hst5 : ∀ k, w2.heap.size ≤ k → (w5.setCell ⟨ob, j, none⟩ (.slice A5 x.length c5)).heap[k]? = w5.heap[k]? := fun k hk => Below.heap_setCell _ _ _ _ (by show k ≠ ob; omega)
    refine ⟨j + 1, vs'.set j (.slice A5 x.length c5), by go_num, by omega, Nat.le_refl _, ⟨by rw [List.length_set]; exact HVL.out⟩, ⟨blk_put (blk_below HXO.out HB5.out) j _ (by rw [List.setIfInBounds_toArray])⟩, ⟨fun i v y hi hv hy => ?_⟩, ⟨?_⟩, ⟨?_⟩⟩
    ·rw [List.getElem?_set] at hv
     by_cases e : j = i
     ·subst e
      rw [if_pos rfl, if_pos (by have := HVL.out; omega)] at hv
      obtain rfl := Option.some.inj hv
      obtain rfl := Option.some.inj (HXE.out.symm.trans hy)
      refine Kd.R_step (Kd.R_mono (Kd.R_lower HR5.out ?_) (fun k hk => ?_)) (fun k hk _ => hst5 k hk)
      ·exact hle2
      ·exact Nat.le_trans hle2 hk
     ·rw [if_neg e] at hv
      exact Kd.R_step (HRW.out i v y (by omega) hv hy) hst
    ·exact Kept.setCell (Kept.below HKE.out HB5.out) (p := ⟨ob, j, none⟩) (Or.inl rfl) _
    ·exact ((HBW.out.trans (HB5.out.mono HBW.out.size))).setCell (p := ⟨ob, j, none⟩) GE.out.2.2.1 _
  ·obtain rfl : n = j := by omega
   have c3 : wr.cell? ⟨L.g, 3, none⟩ = some (.map (some L.bm)) := (HSRC.out _ HBW.out).c3
   obtain ⟨o, hrg, hR0⟩ := (HSRC.out _ HBW.out).hm.range
   have HR0 := Aside0.mk hR0
   clear hR0 hlt hj hgg
   obtain ⟨w4, hw4⟩ : ∃ w4, w4 = wr := ⟨_, rfl⟩
   subst hw4
   go_wp2_with fail
   obtain ⟨it, hit⟩ : ∃ it, it = w4.heap.size := ⟨_, rfl⟩
   obtain ⟨w5, hw5⟩ : ∃ w5, w5 = w4.alloc o := ⟨_, rfl⟩
   have hb5 : Below w4.heap.size w4 w5 := by rw [hw5]; exact below_alloc (Below.refl _ _) _
   rw [← hw5, ← hit] at HR0
   rw [← hw5, ← hit]
   have HB5 := Aside0.mk hb5
   have HIT := Aside0.mk hit
   have BG := Aside0.mk (show bm ≠ g from fun e => by have h1 := FM3.out; rw [e] at h1; have h2 := h1.symm.trans FG3.out; cases h2)
   have BO := Aside0.mk (show bm ≠ ob from fun e => by have h1 := FM3.out; rw [e] at h1; have h2 := h1.symm.trans FO3.out; cases h2)
   have BS := Aside0.mk (show bm ≠ sb from fun e => by have h1 := FM3.out; rw [e] at h1; have h2 := h1.symm.trans FS2.out; cases h2)
   have BL := Aside0.mk (show bm < w2.heap.size from blk_lt FM3.out)
   have GL := Aside0.mk (show g < w2.heap.size from blk_lt FG3.out)
   have HM5 := Aside0.mk (show MapIs w5 bm [] from ⟨#[], 0, blk_below (blk_kept FM3.out HKE.out BO.out) hb5, rfl, List.nodup_nil, MapKept.stamped_empty 0⟩)
   have LB := Aside0.mk (show L.bm < W.heap.size from (HSRC.out W (Below.refl _ _)).hm.lt)
   clear hb5 hw5 hit hrg c3
   go_loopg [5, 6] m.length (fun gg _ _ wr => ∃ (lf : Int → Bool) (cnt : Nat) (m2 : Ents), cnt ≤ gg ∧ Aside0 (Rng wr L.bm it m lf cnt) ∧ Aside0 (MapIs wr bm m2) ∧ Aside0 (∀ a, look a m2 = if lf a = true then none else look a m) ∧ Aside0 (Kept w5 wr (fun k => k = bm ∨ k = it)) ∧ Aside0 (Below W.heap.size W wr))
   case atStart => exact ⟨fun _ => true, m.length, [], Nat.le_refl _, HR0, HM5, ⟨fun a => by simp [look]⟩, ⟨Kept.refl _ _⟩, ⟨HBW.out.trans (HB5.out.mono HBW.out.size)⟩⟩
   case round =>
    clear HR0 HM5
    obtain ⟨lf, cnt, m2, hcnt, HR, HM, HLK, HK5, HBR⟩ := hrel
    have HGR := Aside0.mk (blk_kept (blk_below HGW.out HB5.out) HK5.out (fun e => e.elim (fun e => BG.out e.symm) (fun e => by have h1 := GL.out; have h2 := HIT.out; have h3 := HKE.out.1; omega)))
    rcases HR.out.next 0 with ⟨h0, hlf, hnx⟩ | ⟨x, c, w6, n', hlx, hnx, hR6, hlt, hg6, hs6, hen⟩
    ·have c6 : wr.cell? ⟨L.g, 6, none⟩ = some (.slice Au nu cu) := by have := (HSRC.out _ HBR.out).c6; rw [← EQS.out.2.2.1] at this; exact this
     have HC6 := Aside0.mk (clone46 wr Au cu S.surv (Kd.C_below HUC.out HBR.out) HSL.out)
     rw [← EQS.out.2.2.1] at HC6
     have HLF := Aside0.mk hlf
     clear h0 hlf
     go_wp2_with fail
     refine HC6.out.mono ?_
     rintro e w7 ⟨v7, rfl, hR7, hb7⟩
     obtain ⟨A7, c7, rfl⟩ := Kd.R_slice hR7
     have HR7 := Aside0.mk hR7
     have HB7 := Aside0.mk hb7
     have HG7 := Aside0.mk (blk_below HGR.out hb7)
     have g6 : w7.cell? ⟨g, 6, none⟩ = some (.slice Au nu cu) := by rw [blk_cell HG7.out]; rfl
     have f6 : w7.frozen? ⟨g, 6, none⟩ = false := blk_frozen HG7.out 6
     clear hR7 hb7 HC6 c6 hnx
     go_wp2_with fail
     go_ret
     obtain ⟨w9, hw9⟩ : ∃ w9, w9 = w7.setCell ⟨g, 6, none⟩ (.slice A7 S.surv.length c7) := ⟨_, rfl⟩
     have hfar : ∀ k, k ≠ g → w9.heap[k]? = w7.heap[k]? := fun k hk => by rw [hw9]; exact Below.heap_setCell _ _ _ _ hk
     have h24 : w2.heap.size ≤ w4.heap.size := HKE.out.1
     have h45 : w4.heap.size ≤ w5.heap.size := HB5.out.size
     have h5r : w5.heap.size ≤ wr.heap.size := HK5.out.1
     have h7r : wr.heap.size ≤ w7.heap.size := HB7.out.size
     have hit := HIT.out
     have gl := GL.out
     have bl := BL.out
     have h4 : ∀ k, k < w4.heap.size → k ≠ bm → k ≠ g → w9.heap[k]? = w4.heap[k]? := fun k h1 h2 h3 =>
      (hfar k h3).trans ((HB7.out.block k (by omega)).trans ((HK5.out.2 k (by omega) (fun e => e.elim h2 (fun e => by omega))).trans (HB5.out.block k h1)))
     have h2' : ∀ k, k < w2.heap.size → k ≠ ob → k ≠ bm → k ≠ g → w9.heap[k]? = w2.heap[k]? := fun k h1 h2 h3 h5 => (h4 k (by omega) h3 h5).trans (HKE.out.2 k h1 h2)
     have hbel : Below W.heap.size W w9 := by rw [hw9]; exact (HBR.out.trans (HB7.out.mono HBR.out.size)).setCell (p := ⟨g, 6, none⟩) GE.out.1 _
     rw [← hw9]
     have hgc : w9.heap[g]? = some (.cells #[.slice (some ⟨sb, 0, none⟩) n n, .slice (some ⟨ob, 0, none⟩) n n, .slice pq.1 np pq.2, .map (some bm), .bool fs, .int .i64 fl, .slice A7 S.surv.length c7, .bool fd] 81 (0, 0)) := by rw [hw9]; exact blk_put HG7.out 6 _ (by rfl)
     have hsl := blk_lt FS2.out
     have hdev := cloneAt (W := W) (w := w9) (L' := ⟨g, sb, ob, bm⟩) (vs := vs') (pv := .slice pq.1 np pq.2) (uv := .slice A7 S.surv.length c7) (m2 := m2) (S := S) w2.heap.size HB3.out.size hsl
      (by obtain ⟨e1, e2, e3, e4, e5, e6, e7, e8⟩ := EQS.out; unfold gcells; rw [← e1, ← e4, ← e5, ← e6]; exact hgc)
      ((h2' sb hsl (blk_ne FS2.out FO3.out (by decide)) (fun e => BS.out e.symm) (blk_ne FS2.out FG3.out (by decide))).trans FS2.out)
      ((h4 ob (blk_lt HXO.out) (fun e => BO.out e.symm) (fun e => GGO.out e.symm)).trans HXO.out)
      (by have := HVL.out; have := EQS.out.2.2.2.2.2.2.2; omega)
      (fun i v x a b => Kd.R_step (HRW.out i v x (by have h1 := (List.getElem?_eq_some_iff.1 a).1; have := HVL.out; omega) a b) (fun k hk hlt => h4 k hlt (by omega) (by omega)))
      (by
       rw [← EQS.out.2.2.2.2.2.2.1]
       refine Kd.R_mono (Kd.R_step (Kd.R_bound FP3.out) (fun k hk hlt => ?_)) (fun k hk => hk.1)
       obtain ⟨_, _, _, q, hq, cells, hc⟩ := hk
       have : q = 84 := by simpa [k99, Kd.iso, Kd.pair, Kd.int, Kd.string, Kd.scalar] using hq
       subst this
       exact h2' k hlt (blk_ne hc FO3.out (by decide)) (fun e => by rw [e, FM3.out] at hc; cases hc) (blk_ne hc FG3.out (by decide)))
      ((HM.out.move (HB7.out.block bm HM.out.lt)).move (hfar bm BG.out))
      (fun a => by
       rw [HLK.out a, ← (HSRC.out W (Below.refl _ _)).hl a]
       by_cases hka : a ∈ keys m
       ·rw [HLF.out a hka]; rfl
       ·rw [look_none a m hka]; split <;> rfl)
      (Kd.R_step (Kd.R_mono (Kd.R_lower HR7.out (by omega)) (fun k hk => by show w2.heap.size ≤ k; omega)) (fun k hk _ => hfar k (by omega)))
      GE.out.1 GE.out.2.1 GE.out.2.2.1 GE.out.2.2.2
     exact ⟨⟨g, sb, ob, bm⟩, rfl, hdev, hbel⟩
    ·have hB6 : Below W.heap.size W w6 := HBR.out.grown hg6 HBR.out.size (fun j hj => by cases hj; have h1 := HIT.out; have h2 := HBW.out.size; omega)
     have hit2 : it ≠ bm := fun e => by have h1 := HIT.out; have h2 := HKE.out.1; have h3 := BL.out; omega
     have hig : g ≠ it := fun e => by have h1 := HIT.out; have h2 := HKE.out.1; have h3 := GL.out; omega
     have hmb : MapIs w6 bm m2 := HM.out.move (hg6.block bm HM.out.lt (fun e => hit2 (Option.some.inj e).symm))
     obtain ⟨w7, hup, hm7, hg7⟩ := hmb.run_update Try.underlying77 x c
     have hup : (Instr.mapUpdate 77 (.map (some bm)) (.int .i64 x) (.int .i64 c)).run Try.prog w6 = .ok () w7 := hup
     have hnx : (Instr.next (.pointer (some ⟨it, 0, none⟩)) false 0).run Try.prog wr = .ok (.tuple #[.bool true, .int .i64 x, .int .i64 c]) w6 := hnx
     have hen : (Instr.entry (.pointer (some ⟨it, 0, none⟩))).run Try.prog w6 = .ok (.tuple #[.int .i64 x, .int .i64 c]) w6 := hen
     have q3 : w6.cell? ⟨g, 3, none⟩ = some (.map (some bm)) := by
      have h1 : w6.heap[g]? = _ := (hg6.block g (blk_lt HGR.out) (fun e => hig (Option.some.inj e))).trans HGR.out
      rw [blk_cell h1]; rfl
     have HR6 := Aside0.mk hR6
     have HG6 := Aside0.mk hg6
     have HG7 := Aside0.mk hg7
     have HM7 := Aside0.mk hm7
     have HLX := Aside0.mk hlx
     have HB6 := Aside0.mk hB6
     have HLT := Aside0.mk hlt
     clear hR6 hg6 hg7 hm7 hlx hB6 hmb hit2 hig hs6 hlt
     go_wp2_with fail
     go_roundg n'
     case measure => have := HLT.out; omega
     case rel =>
      have hl1 := (HSRC.out _ HBR.out).hm.lt
      have hne1 : some L.bm ≠ some bm := fun e => by have h1 := LB.out; have h2 := GE.out.2.2.2; have h3 := Option.some.inj e; omega
      have hni : it ≠ bm := fun e => by have h1 := HIT.out; have h2 := HKE.out.1; have h3 := BL.out; omega
      refine ⟨_, n', upd x c m2, Nat.le_refl _, ⟨HR6.out.move (HG7.out.block _ HR6.out.isMap.lt hne1) (HG7.out.block it ?_ (fun e => hni (Option.some.inj e)))⟩, HM7, ⟨fun a => ?_⟩, ⟨?_⟩, ⟨?_⟩⟩
      ·obtain ⟨_, _, _, hI⟩ := HR6.out.iter
       exact blk_lt hI
      ·show look a (upd x c m2) = if (lf a && !decide (a = x)) = true then none else look a m
       rw [look_upd]
       by_cases e : a = x
       ·rw [if_pos e, if_neg (by simp [e]), e, HLX.out]
       ·rw [if_neg e, HLK.out a]
        simp [e]
      ·exact Kept.of_grown HG7.out (Kept.of_grown HG6.out HK5.out (fun k hk => by cases hk; exact Or.inl (Or.inr rfl))) (fun k hk => by cases hk; exact Or.inl (Or.inl rfl))
      ·exact HB6.out.grown HG7.out HB6.out.size (fun j hj => by cases hj; exact GE.out.2.2.2)
end Go.Proofs.Ytflajmgichdhhaa.PG
namespace Go.Proofs.Ytflajmgichdhhaa.PG
open Go.RowKit Go.Proofs.YtflajmgichdhhaaW.PrintWords Go.Proofs.YtflajmgichdhhaaW.PrintLast Go.Proofs.YtflajmgichdhhaaW.PrintMore
set_option linter.unusedVariables false
set_option linter.unusedSimpArgs false
def Two (W0 : World) (L : Lay) (K : List (Nat × Obj)) (S : DevS) (L2 : Lay) (S2 : DevS) (W1 : World) : Prop :=
  ∃ F F2, DevIs W1 W0.heap.size L F S ∧ DevIs W1 W0.heap.size L2 F2 S2 ∧ (∀ k, F k → ¬ F2 k) ∧ (∀ p ∈ K, W1.heap[p.1]? = some p.2 ∧ ¬ F p.1 ∧ ¬ F2 p.1) ∧ Below W0.heap.size W0 W1
section
variable {W0 W1 W2 : World} {L L2 : Lay} {K : List (Nat × Obj)} {S S' S2 : DevS} {k : Nat}
theorem Two.bel (h : Two W0 L K S L2 S2 W1) : Below W0.heap.size W0 W1 := by obtain ⟨_, _, _, _, _, _, h⟩ := h; exact h
theorem Two.swap (h : Two W0 L K S L2 S2 W1) : Two W0 L2 K S2 L S W1 := by
 obtain ⟨F, F2, h1, h2, h3, h4, h5⟩ := h
 exact ⟨F2, F, h2, h1, fun k z y => h3 k y z, fun p hp => ⟨(h4 p hp).1, (h4 p hp).2.2, (h4 p hp).2.1⟩, h5⟩
theorem Two.blk (h : Two W0 L K S L2 S2 W1) {b : Nat} {o : Obj} (hp : (b, o) ∈ K) : W1.heap[b]? = some o := by
 obtain ⟨F, F2, _, _, _, h4, _⟩ := h
 exact (h4 _ hp).1
theorem Two.hold (h : Two W0 L K S L2 S2 W1) (hb : Below W1.heap.size W1 W2) (K' : List (Nat × Obj)) (hK : ∀ p ∈ K', W1.heap.size ≤ p.1 ∧ W2.heap[p.1]? = some p.2) : Two W0 L (K' ++ K) S L2 S2 W2 := by
 obtain ⟨F, F2, h1, h2, h3, h4, h5⟩ := h
 refine ⟨F, F2, h1.below hb, h2.below hb, h3, fun p hp => ?_, h5.trans (hb.mono h5.size)⟩
 rcases List.mem_append.1 hp with hp | hp
 ·obtain ⟨a, b⟩ := hK p hp
  exact ⟨b, fun z => by have := (h1.range _ z).2; omega, fun z => by have := (h2.range _ z).2; omega⟩
 ·exact ⟨blk_below (h4 p hp).1 hb, (h4 p hp).2⟩
theorem Two.below (h : Two W0 L K S L2 S2 W1) (hb : Below W1.heap.size W1 W2) : Two W0 L K S L2 S2 W2 := h.hold hb [] (fun p hp => by cases hp)
theorem Two.only (h : Two W0 L K S L2 S2 W1) (K' : List (Nat × Obj)) (hK : ∀ p ∈ K', p ∈ K) : Two W0 L K' S L2 S2 W1 := by
 obtain ⟨F, F2, h1, h2, h3, h4, h5⟩ := h
 exact ⟨F, F2, h1, h2, h3, fun p hp => h4 p (hK p hp), h5⟩
theorem Two.post {P : Program} {f : FuncId} {args : Array Value} {E : Ending} (h : Two W0 L K S L2 S2 W1) (hc : ∀ F, DevIs W1 W0.heap.size L F S → Calls P f args W1 fun e W' => e = E ∧ DevPost W0.heap.size L F S' W1 W') :
  Calls P f args W1 fun e W' => e = E ∧ Two W0 L K S' L2 S2 W' := by
 obtain ⟨F, F2, h1, h2, h3, h4, h5⟩ := h
 refine (hc F h1).mono ?_
 rintro e W' ⟨he, F', d1, d2, d3, d4⟩
 refine ⟨he, F', F2, d1, h2.kept d3 (fun k z y => h3 k y z), fun k z y => ?_, fun p hp => ?_, h5.trans d4⟩
 ·rcases d2 k z with w | w
  ·exact h3 k w y
  ·have := (h2.range _ y).2; omega
 ·obtain ⟨a, b, c⟩ := h4 p hp
  have hlt := blk_lt a
  exact ⟨(d3.2 p.1 hlt b).trans a, fun z => (d2 _ z).elim b (fun y => by omega), c⟩
theorem Two.of_clone {L' : Lay} {F : Nat → Prop} (h : Inv W0 L K S W1) (h2 : DevIs W2 W1.heap.size L' (fun k => W1.heap.size ≤ k ∧ k < W2.heap.size) S) (hb : Below W1.heap.size W1 W2) : Two W0 L K S L' S W2 := by
 obtain ⟨F, h1, h4, h5⟩ := h
 refine ⟨F, _, h1.below hb, h2.lower h5.size, fun k z y => ?_, fun p hp => ?_, h5.trans (hb.mono h5.size)⟩
 ·have := (h1.range _ z).2
  omega
 ·obtain ⟨a, b⟩ := h4 p hp
  exact ⟨blk_below a hb, b, fun y => by have := blk_lt a; omega⟩
theorem Inv.clone (h : Inv W0 L K S W1) (hf : Good k S) (hk : k ≤ 1000000) :
  Calls Try.prog 16 #[.pointer (some ⟨L.g, 0, none⟩)] W1 fun e W' => ∃ L', e = .returned (.pointer (some ⟨L'.g, 0, none⟩)) ∧ Two W0 L K S L' S W' := by
 obtain ⟨F, h1, _⟩ := id h
 refine (clone_calls h1 hf.fine hk hf.surv).mono ?_
 rintro e W' ⟨L', he, hd, hb⟩
 exact ⟨L', he, Two.of_clone (F := F) h hd hb⟩
theorem Two.write (h : Two W0 L K S L2 S2 W1) (hf : Fine k S) (hk : k ≤ 1000000) (hsl : S.surv.length ≤ 4611686018427387904) (sys ep sec : Int) (d : ByteArray) {r : Int} (hr : writeS S sys ep sec d = (r, S')) :
  Calls Try.prog 20 #[.pointer (some ⟨L.g, 0, none⟩), .agg #[.int .i64 sys, .int .i64 ep], .int .i64 sec, .string d] W1 fun e W' => e = .returned (.int .i64 r) ∧ Two W0 L K S' L2 S2 W' :=
 h.post (fun F hI => by have := write_calls hI hf hk hsl sys ep sec d; rw [hr] at this; exact this)
theorem Two.sync (h : Two W0 L K S L2 S2 W1) (hf : Fine k S) (hk : k ≤ 1000000) (hsl : S.surv.length ≤ 4611686018427387904) (sys ep : Int) {r : Int} (hr : syncS S sys ep = (r, S')) :
  Calls Try.prog 21 #[.pointer (some ⟨L.g, 0, none⟩), .agg #[.int .i64 sys, .int .i64 ep]] W1 fun e W' => e = .returned (.int .i64 r) ∧ Two W0 L K S' L2 S2 W' :=
 h.post (fun F hI => by have := sync_calls hI hf hk hsl sys ep; rw [hr] at this; exact this)
theorem Two.pend (h : Two W0 L K S L2 S2 W1) (hpl : S.pend.length ≤ 1000000) (i : Int) {n : Nat} (hn : pendN S i = n) :
  Calls Try.prog 24 #[.pointer (some ⟨L.g, 0, none⟩), .int .i64 i] W1 fun e W' => e = .returned (.int .i64 (n : Int)) ∧ Two W0 L K S L2 S2 W' := by
 obtain ⟨F, F2, h1, _⟩ := id h
 refine (pendI h1 hpl i).mono ?_
 rintro e W' ⟨he, hb⟩
 exact ⟨by rw [← hn]; exact he, h.below hb⟩
end
end Go.Proofs.Ytflajmgichdhhaa.PG
namespace Go.Proofs.Ytflajmgichdhhaa.PG
open Go.RowKit Go.Proofs.YtflajmgichdhhaaW.PrintWords Go.Proofs.YtflajmgichdhhaaW.PrintLast Go.Proofs.YtflajmgichdhhaaW.PrintMore
set_option linter.unusedVariables false
set_option linter.unusedSimpArgs false
attribute [local go_sem] max2_int min2_int max_two min_two
def retS (x : ByteArray) (r : List ByteArray) : DevS := ⟨[x], [r.take 8], [], fun _ => none, false, 0, [], false⟩
end Go.Proofs.Ytflajmgichdhhaa.PG
namespace Go.Proofs.Ytflajmgichdhhaa.PG
open Go.RowKit Go.Proofs.YtflajmgichdhhaaW.PrintWords Go.Proofs.YtflajmgichdhhaaW.PrintLast Go.Proofs.YtflajmgichdhhaaW.PrintMore
set_option linter.unusedVariables false
set_option linter.unusedSimpArgs false
theorem op_at {W wr : World} {A : Option Addr} {l : List S37} (hC : Kd.C k37 W A l.length l) (hb : Below W.heap.size W wr) (j : Nat) (hj : j < l.length) :
  ∃ ad A7 c7, A = some ad ∧ wr.cell? (ad.add (j * 8)) = some (.int .u8 l[j].f0) ∧ wr.cell? ⟨(ad.add (j * 8)).block, (ad.add (j * 8)).off + 1, none⟩ = some (.int .i64 l[j].f1.f0) ∧ wr.cell? ⟨(ad.add (j * 8)).block, (ad.add (j * 8)).off + 2, none⟩ = some (.int .i64 l[j].f1.f1) ∧
   wr.cell? ⟨(ad.add (j * 8)).block, (ad.add (j * 8)).off + 3, none⟩ = some (.int .i64 l[j].f2) ∧ wr.cell? ⟨(ad.add (j * 8)).block, (ad.add (j * 8)).off + 4, none⟩ = some (.string l[j].f3) ∧ wr.cell? ⟨(ad.add (j * 8)).block, (ad.add (j * 8)).off + 5, none⟩ = some (.int .i64 l[j].f4) ∧
   wr.cell? ⟨(ad.add (j * 8)).block, (ad.add (j * 8)).off + 6, none⟩ = some (.int .u8 l[j].f5) ∧ wr.cell? ⟨(ad.add (j * 8)).block, (ad.add (j * 8)).off + 7, none⟩ = some (.slice A7 l[j].f6.length c7) ∧ l[j].f6.length ≤ c7 ∧ Kd.C (Kd.int .i64) W A7 l[j].f6.length l[j].f6 := by
 obtain ⟨ad, A7, c7, e, h0, h1, h2, h3, h4, h5, h6, h7, h8, h9⟩ := at_T37 hC (j : Int) (by omega) (by omega)
 rw [rdT37_at l j hj, Int.toNat_natCast] at h0 h1 h2 h3 h4 h5 h6 h7
 rw [rdT37_at l j hj] at h8 h9
 have mv : ∀ {a : Addr} {v : Value}, W.cell? a = some v → wr.cell? a = some v := fun h => (hb.cell (World.block_lt_of_cell? W _ h)).trans h
 exact ⟨ad, A7, c7, e, mv h0, mv h1, mv h2, mv h3, mv h4, mv h5, mv h6, mv h7, h8, h9⟩
end Go.Proofs.Ytflajmgichdhhaa.PG
namespace Go.Proofs.Ytflajmgichdhhaa.PG
open Go.RowKit Go.Proofs.YtflajmgichdhhaaW.PrintWords Go.Proofs.YtflajmgichdhhaaW.PrintLast Go.Proofs.YtflajmgichdhhaaW.PrintMore
set_option linter.unusedVariables false
set_option linter.unusedSimpArgs false
def RefsIn (W1 : World) (F : Nat → Prop) (B : Nat) (Bs : List (Nat × Array Value × DevS)) (Vs : List (Value × DevS)) : Prop :=
  (∀ p ∈ Bs, W1.heap[p.1]? = some (.cells p.2.1 31 (0, 0)) ∧ ¬ F p.1 ∧ B ≤ p.1 ∧ RefIs W1 (fun k => ¬ F k ∧ ∀ q ∈ Bs, k ≠ q.1) (.agg p.2.1) p.2.2) ∧
  (∀ p ∈ Vs, RefIs W1 (fun k => ¬ F k ∧ ∀ q ∈ Bs, k ≠ q.1) p.1 p.2)
section
variable {W0 W1 W2 : World} {F F' : Nat → Prop} {B : Nat} {Bs : List (Nat × Array Value × DevS)} {Vs : List (Value × DevS)} {S S' : DevS} {k : Nat}
theorem RefsIn.blk (h : RefsIn W1 F B Bs Vs) {b : Nat} {cs : Array Value} (hp : (b, cs, S) ∈ Bs) : W1.heap[b]? = some (.cells cs 31 (0, 0)) := (h.1 _ hp).1
theorem RefsIn.below (h : RefsIn W1 F B Bs Vs) (hb : Below W1.heap.size W1 W2) : RefsIn W2 F B Bs Vs :=
 ⟨fun p hp => ⟨blk_below (h.1 p hp).1 hb, (h.1 p hp).2.1, (h.1 p hp).2.2.1, (h.1 p hp).2.2.2.below hb⟩, fun p hp => (h.2 p hp).below hb⟩
theorem RefsIn.kept (h : RefsIn W1 F B Bs Vs) (hk : Kept W1 W2 F) (hF : ∀ k, F' k → F k ∨ W1.heap.size ≤ k) : RefsIn W2 F' B Bs Vs := by
 have mv : ∀ {v : Value} {S : DevS}, RefIs W1 (fun k => ¬ F k ∧ ∀ q ∈ Bs, k ≠ q.1) v S → RefIs W2 (fun k => ¬ F' k ∧ ∀ q ∈ Bs, k ≠ q.1) v S := fun h4 =>
  ((h4.mono (ok' := fun k => (¬ F k ∧ ∀ q ∈ Bs, k ≠ q.1) ∧ k < W1.heap.size) (fun k a b => ⟨a, b⟩)).step (fun k a hlt => hk.2 k hlt a.1.1)).mono (fun k a _ => ⟨fun z => (hF k z).elim a.1.1 (fun y => by have := a.2; omega), a.1.2⟩)
 refine ⟨fun p hp => ?_, fun p hp => mv (h.2 p hp)⟩
 obtain ⟨h1, h2, h3, h4⟩ := h.1 p hp
 have hlt := blk_lt h1
 exact ⟨(hk.2 p.1 hlt h2).trans h1, fun z => (hF _ z).elim h2 (fun y => by omega), h3, mv h4⟩
theorem RefsIn.only (h : RefsIn W1 F B Bs Vs) (Bs' : List (Nat × Array Value × DevS)) (hB : ∀ p ∈ Bs', p ∈ Bs) (Vs' : List (Value × DevS)) (hV : ∀ p ∈ Vs', p ∈ Vs) : RefsIn W1 F B Bs' Vs' :=
 ⟨fun p hp => by
  obtain ⟨h1, h2, h3, h4⟩ := h.1 p (hB p hp)
  exact ⟨h1, h2, h3, h4.mono (fun k a _ => ⟨a.1, fun q hq => a.2 q (hB q hq)⟩)⟩, fun p hp => (h.2 p (hV p hp)).mono (fun k a _ => ⟨a.1, fun q hq => a.2 q (hB q hq)⟩)⟩
theorem RefsIn.box (h : RefsIn W1 F B Bs Vs) (hr : ∀ k, F k → k < W1.heap.size) (hB : B ≤ W1.heap.size) {cs : Array Value} (hR : RefIs W1 (fun k => ¬ F k ∧ ∀ q ∈ Bs, k ≠ q.1) (.agg cs) S) : RefsIn (W1.alloc (.cells cs 31)) F B ((W1.heap.size, cs, S) :: Bs) Vs := by
 have hb := below_alloc (Below.refl W1.heap.size W1) (.cells cs 31)
 have mv : ∀ {v : Value} {T : DevS}, RefIs W1 (fun k => ¬ F k ∧ ∀ q ∈ Bs, k ≠ q.1) v T → RefIs (W1.alloc (.cells cs 31)) (fun k => ¬ F k ∧ ∀ q ∈ (W1.heap.size, cs, S) :: Bs, k ≠ q.1) v T := fun h4 =>
  ((h4.mono (ok' := fun k => (¬ F k ∧ ∀ q ∈ Bs, k ≠ q.1) ∧ k < W1.heap.size) (fun k a b => ⟨a, b⟩)).below hb).mono (fun k a _ => ⟨a.1.1, fun q hq => by
   rcases List.mem_cons.1 hq with rfl | hq
   ·show k ≠ W1.heap.size
    have := a.2
    omega
   ·exact a.1.2 q hq⟩)
 refine ⟨fun p hp => ?_, fun p hp => mv (h.2 p hp)⟩
 rcases List.mem_cons.1 hp with rfl | hp
 ·exact ⟨blk_new _ _, fun z => by have := hr _ z; omega, hB, mv hR⟩
 ·obtain ⟨h1, h2, h3, h4⟩ := h.1 p hp
  exact ⟨blk_below h1 hb, h2, h3, mv h4⟩
theorem RefsIn.set (h : RefsIn W1 F B Bs Vs) {bx by_ : Nat} {cs cs' : Array Value} (hx : (bx, cs, S) ∈ Bs) (hy : (by_, cs', S') ∈ Bs) (hf : ∀ k, k ≠ bx → W2.heap[k]? = W1.heap[k]?) (hb : W2.heap[bx]? = some (.cells cs' 31 (0, 0)))
  (Bs' : List (Nat × Array Value × DevS)) (hB : ∀ p ∈ Bs', p ∈ Bs ∧ p.1 ≠ bx) : RefsIn W2 F B ((bx, cs', S') :: Bs') Vs := by
 have mv : ∀ {v : Value} {T : DevS}, RefIs W1 (fun k => ¬ F k ∧ ∀ q ∈ Bs, k ≠ q.1) v T → RefIs W2 (fun k => ¬ F k ∧ ∀ q ∈ (bx, cs', S') :: Bs', k ≠ q.1) v T := fun h4 =>
  (h4.step (fun k a _ => hf k (a.2 _ hx))).mono (fun k a _ => ⟨a.1, fun q hq => by
   rcases List.mem_cons.1 hq with rfl | hq
   ·show k ≠ bx
    exact a.2 (bx, cs, S) hx
   ·exact a.2 q (hB q hq).1⟩)
 refine ⟨fun p hp => ?_, fun p hp => mv (h.2 p hp)⟩
 rcases List.mem_cons.1 hp with rfl | hp
 ·exact ⟨hb, (h.1 _ hx).2.1, (h.1 _ hx).2.2.1, mv (h.1 _ hy).2.2.2⟩
 ·obtain ⟨h1, h2, h3, h4⟩ := h.1 p (hB p hp).1
  exact ⟨(hf p.1 (hB p hp).2).trans h1, h2, h3, mv h4⟩
theorem RefsIn.do (h : RefsIn W1 F B Bs Vs) (hr : ∀ k, F k → k < W1.heap.size) {bx : Nat} {cs : Array Value} (hx : (bx, cs, S) ∈ Bs) (hG : Good k S) (hk : k ≤ 1000000) (o : S37) (hw : Opens.OpWf o) (A : Option Addr) (c : Nat) (hC : Kd.C (Kd.int .i64) W1 A o.f6.length o.f6) (hlc : o.f6.length ≤ c) (hlm : o.f6.length ≤ 1000000) :
  Calls Try.prog 13 #[.agg cs, .agg (opCells o A c)] W1 fun e W2 => ∃ v', e = .returned (.tuple #[v', .int .i64 (doS o S).1]) ∧ Below W1.heap.size W1 W2 ∧ RefsIn W2 F B Bs ((v', (doS o S).2) :: Vs) := by
 refine (refdo_calls (h.1 _ hx).2.2.2 hG hk o hw A c hC hlc hlm).mono ?_
 rintro e W2 ⟨v', rfl, hR, hb⟩
 have hh := h.below hb
 refine ⟨v', rfl, hb, hh.1, fun p hp => ?_⟩
 rcases List.mem_cons.1 hp with rfl | hp
 ·exact hR.mono (fun k a _ => a.elim id (fun y => ⟨fun z => by have := hr k z; omega, fun q hq e => by have := blk_lt (h.1 q hq).1; omega⟩))
 ·exact hh.2 p hp
theorem RefsIn.seven (h : RefsIn W1 F B Bs Vs) {bx : Nat} {cs : Array Value} (hx : (bx, cs, S) ∈ Bs) : ∃ A0 A1 A2 A3 A6 n0 n1 n2 n3 n6 c0 c1 c2 c3 c6 fa fu, cs = #[.slice A0 n0 c0, .slice A1 n1 c1, .slice A2 n2 c2, .slice A3 n3 c3, .bool fa, .int .i64 fu, .slice A6 n6 c6] := by
 obtain ⟨A0, A1, A2, A3, A6, c0, c1, c2, c3, c6, fl, fu, sv, hC⟩ := (h.1 _ hx).2.2.2.open_
 have := hC.hv
 injection this with this
 exact ⟨_, _, _, _, _, _, _, _, _, _, _, _, _, _, _, _, _, this⟩
theorem RefsIn.val (h : RefsIn W1 F B Bs Vs) {v : Value} (hv : (v, S) ∈ Vs) : ∃ A0 A1 A2 A3 A6 n0 n1 n2 n3 n6 c0 c1 c2 c3 c6 fa fu, v = .agg #[.slice A0 n0 c0, .slice A1 n1 c1, .slice A2 n2 c2, .slice A3 n3 c3, .bool fa, .int .i64 fu, .slice A6 n6 c6] := by
 obtain ⟨A0, A1, A2, A3, A6, c0, c1, c2, c3, c6, fl, fu, sv, hC⟩ := (h.2 _ hv).open_
 exact ⟨_, _, _, _, _, _, _, _, _, _, _, _, _, _, _, _, _, hC.hv⟩
def OneR (W0 : World) (L : Lay) (S : DevS) (Bs : List (Nat × Array Value × DevS)) (Vs : List (Value × DevS)) (W1 : World) : Prop :=
  ∃ F, DevIs W1 W0.heap.size L F S ∧ RefsIn W1 F W0.heap.size Bs Vs ∧ Below W0.heap.size W0 W1
variable {L L2 : Lay} {S2 : DevS}
theorem OneR.bel (h : OneR W0 L S Bs Vs W1) : Below W0.heap.size W0 W1 := by obtain ⟨_, _, _, h⟩ := h; exact h
theorem OneR.blk (h : OneR W0 L S Bs Vs W1) {b : Nat} {cs : Array Value} (hp : (b, cs, S') ∈ Bs) : W1.heap[b]? = some (.cells cs 31 (0, 0)) := by obtain ⟨F, _, h, _⟩ := h; exact h.blk hp
theorem OneR.below (h : OneR W0 L S Bs Vs W1) (hb : Below W1.heap.size W1 W2) : OneR W0 L S Bs Vs W2 := by
 obtain ⟨F, h1, h2, h3⟩ := h
 exact ⟨F, h1.below hb, h2.below hb, h3.trans (hb.mono h3.size)⟩
theorem OneR.only (h : OneR W0 L S Bs Vs W1) (Bs' : List (Nat × Array Value × DevS)) (hB : ∀ p ∈ Bs', p ∈ Bs) (Vs' : List (Value × DevS)) (hV : ∀ p ∈ Vs', p ∈ Vs) : OneR W0 L S Bs' Vs' W1 := by
 obtain ⟨F, h1, h2, h3⟩ := h
 exact ⟨F, h1, h2.only Bs' hB Vs' hV, h3⟩
theorem OneR.box (h : OneR W0 L S Bs Vs W1) {cs : Array Value} (hv : (.agg cs, S') ∈ Vs) (Vs' : List (Value × DevS)) (hV : ∀ p ∈ Vs', p ∈ Vs) : OneR W0 L S ((W1.heap.size, cs, S') :: Bs) Vs' (W1.alloc (.cells cs 31)) := by
 obtain ⟨F, h1, h2, h3⟩ := h
 have hb := below_alloc (Below.refl W1.heap.size W1) (.cells cs 31)
 exact ⟨F, h1.below hb, (h2.box (fun k z => (h1.range k z).2) h3.size (h2.2 _ hv)).only _ (fun p hp => hp) Vs' hV, h3.trans (hb.mono h3.size)⟩
theorem OneR.set (h : OneR W0 L S Bs Vs W1) {bx by_ : Nat} {cs cs' : Array Value} {Sx Sy : DevS} (hx : (bx, cs, Sx) ∈ Bs) (hy : (by_, cs', Sy) ∈ Bs) (hf : ∀ k, k ≠ bx → W2.heap[k]? = W1.heap[k]?) (hb : W2.heap[bx]? = some (.cells cs' 31 (0, 0))) (hbl : Below W0.heap.size W1 W2)
  (Bs' : List (Nat × Array Value × DevS)) (hB : ∀ p ∈ Bs', p ∈ Bs ∧ p.1 ≠ bx) : OneR W0 L S ((bx, cs', Sy) :: Bs') Vs W2 := by
 obtain ⟨F, h1, h2, h3⟩ := h
 exact ⟨F, h1.move (fun k hk => hf k (fun e => (h2.1 _ hx).2.1 (e ▸ hk))) hbl.size, h2.set hx hy hf hb Bs' hB, h3.trans hbl⟩
theorem OneR.ge (h : OneR W0 L S Bs Vs W1) {bx : Nat} {cs : Array Value} (hx : (bx, cs, S') ∈ Bs) : W0.heap.size ≤ bx := by obtain ⟨F, _, h, _⟩ := h; exact (h.1 _ hx).2.2.1
theorem OneR.seven (h : OneR W0 L S Bs Vs W1) {bx : Nat} {cs : Array Value} (hx : (bx, cs, S') ∈ Bs) : ∃ A0 A1 A2 A3 A6 n0 n1 n2 n3 n6 c0 c1 c2 c3 c6 fa fu, cs = #[.slice A0 n0 c0, .slice A1 n1 c1, .slice A2 n2 c2, .slice A3 n3 c3, .bool fa, .int .i64 fu, .slice A6 n6 c6] := by
 obtain ⟨F, _, h, _⟩ := h; exact h.seven hx
theorem OneR.val (h : OneR W0 L S Bs Vs W1) {v : Value} (hv : (v, S') ∈ Vs) : ∃ A0 A1 A2 A3 A6 n0 n1 n2 n3 n6 c0 c1 c2 c3 c6 fa fu, v = .agg #[.slice A0 n0 c0, .slice A1 n1 c1, .slice A2 n2 c2, .slice A3 n3 c3, .bool fa, .int .i64 fu, .slice A6 n6 c6] := by
 obtain ⟨F, _, h, _⟩ := h; exact h.val hv
theorem OneR.start {F : Nat → Prop} {v : Value} (h : DevIs W1 W0.heap.size L F S) (hR : RefIs W1 (fun k => ¬ F k) v S) (hb : Below W0.heap.size W0 W1) : OneR W0 L S [] [(v, S)] W1 :=
 ⟨F, h, ⟨fun p hp => (by cases hp), fun p hp => by
  rcases List.mem_cons.1 hp with rfl | hp
  ·exact hR.mono (fun k a _ => ⟨a, fun q hq => by cases hq⟩)
  ·cases hp⟩, hb⟩
theorem OneR.rdo (h : OneR W0 L S Bs Vs W1) {bx : Nat} {cs : Array Value} (hx : (bx, cs, S') ∈ Bs) (hG : Good k S') (hk : k ≤ 1000000) (o : S37) (hw : Opens.OpWf o) (A : Option Addr) (c : Nat) (hC : Kd.C (Kd.int .i64) W0 A o.f6.length o.f6) (hlc : o.f6.length ≤ c) (hlm : o.f6.length ≤ 1000000) :
  Calls Try.prog 13 #[.agg cs, .agg (opCells o A c)] W1 fun e W2 => ∃ v', e = .returned (.tuple #[v', .int .i64 (doS o S').1]) ∧ Below W1.heap.size W1 W2 ∧ OneR W0 L S Bs ((v', (doS o S').2) :: Vs) W2 := by
 obtain ⟨F, h1, h2, h3⟩ := h
 refine (h2.do (fun k z => (h1.range k z).2) hx hG hk o hw A c (Kd.C_below hC h3) hlc hlm).mono ?_
 rintro e W2 ⟨v', rfl, hb, hR⟩
 exact ⟨v', rfl, hb, F, h1.below hb, hR, h3.trans (hb.mono h3.size)⟩
theorem OneR.ddo (h : OneR W0 L S Bs Vs W1) (hG : Good k S) (hk : k ≤ 1000000) (o : S37) (hw : Opens.OpWf o) (A : Option Addr) (c : Nat) (hC : Kd.C (Kd.int .i64) W0 A o.f6.length o.f6) (hlc : o.f6.length ≤ c) (hlm : o.f6.length ≤ 1000000) :
  Calls Try.prog 14 #[.pointer (some ⟨L.g, 0, none⟩), .agg (opCells o A c)] W1 fun e W2 => e = .returned (.int .i64 (doS o S).1) ∧ OneR W0 L (doS o S).2 Bs Vs W2 := by
 obtain ⟨F, h1, h2, h3⟩ := h
 refine (do_calls h1 hG hk o hw A c (Kd.F_mono (Kd.F_below (Kd.C_F (Kd.heap_int _) hC) h3) (fun k hk z => by have := (h1.range _ z).1; omega)) hlc hlm).mono ?_
 rintro e W2 ⟨rfl, F', d1, d2, d3, d4⟩
 exact ⟨rfl, F', d1, h2.kept d3 d2, h3.trans d4⟩
theorem OneR.same (h : OneR W0 L S Bs Vs W1) {bx : Nat} {cs : Array Value} (hx : (bx, cs, S) ∈ Bs) (hG : Good k S) (hk : k ≤ 1000000) :
  Calls Try.prog 15 #[.pointer (some ⟨L.g, 0, none⟩), .agg cs] W1 fun e W2 => e = .returned (.bool true) ∧ Below W1.heap.size W1 W2 := by
 obtain ⟨F, h1, h2, h3⟩ := h
 exact same_calls h1 (h2.1 _ hx).2.2.2 hG.fine hk
end
end Go.Proofs.Ytflajmgichdhhaa.PG
namespace Go.Proofs.Ytflajmgichdhhaa.PG
open Go.RowKit Go.Proofs.YtflajmgichdhhaaW.PrintWords Go.Proofs.YtflajmgichdhhaaW.PrintLast Go.Proofs.YtflajmgichdhhaaW.PrintMore
set_option linter.unusedVariables false
set_option linter.unusedSimpArgs false
section
variable {W0 W1 W2 : World} {F F' F2 : Nat → Prop} {B : Nat} {Bs : List (Nat × Array Value × DevS)} {Vs : List (Value × DevS)} {S S' S2 : DevS} {k : Nat} {L L2 : Lay}
theorem RefsIn.put (h : RefsIn W1 F B Bs Vs) {bx : Nat} {cs cs' : Array Value} (hx : (bx, cs, S) ∈ Bs) (hy : (.agg cs', S') ∈ Vs) (hf : ∀ k, k ≠ bx → W2.heap[k]? = W1.heap[k]?) (hb : W2.heap[bx]? = some (.cells cs' 31 (0, 0)))
  (Bs' : List (Nat × Array Value × DevS)) (hB : ∀ p ∈ Bs', p ∈ Bs ∧ p.1 ≠ bx) : RefsIn W2 F B ((bx, cs', S') :: Bs') [] := by
 have mv : ∀ {v : Value} {T : DevS}, RefIs W1 (fun k => ¬ F k ∧ ∀ q ∈ Bs, k ≠ q.1) v T → RefIs W2 (fun k => ¬ F k ∧ ∀ q ∈ (bx, cs', S') :: Bs', k ≠ q.1) v T := fun h4 =>
  (h4.step (fun k a _ => hf k (a.2 _ hx))).mono (fun k a _ => ⟨a.1, fun q hq => by
   rcases List.mem_cons.1 hq with rfl | hq
   ·show k ≠ bx
    exact a.2 (bx, cs, S) hx
   ·exact a.2 q (hB q hq).1⟩)
 refine ⟨fun p hp => ?_, fun p hp => by cases hp⟩
 rcases List.mem_cons.1 hp with rfl | hp
 ·exact ⟨hb, (h.1 _ hx).2.1, (h.1 _ hx).2.2.1, mv (h.2 _ hy)⟩
 ·obtain ⟨h1, h2, h3, h4⟩ := h.1 p (hB p hp).1
  exact ⟨(hf p.1 (hB p hp).2).trans h1, h2, h3, mv h4⟩
theorem OneR.put (h : OneR W0 L S Bs Vs W1) {bx : Nat} {cs cs' : Array Value} {Sx Sy : DevS} (hx : (bx, cs, Sx) ∈ Bs) (hy : (.agg cs', Sy) ∈ Vs) (hf : ∀ k, k ≠ bx → W2.heap[k]? = W1.heap[k]?) (hb : W2.heap[bx]? = some (.cells cs' 31 (0, 0))) (hbl : Below W0.heap.size W1 W2)
  (Bs' : List (Nat × Array Value × DevS)) (hB : ∀ p ∈ Bs', p ∈ Bs ∧ p.1 ≠ bx) : OneR W0 L S ((bx, cs', Sy) :: Bs') [] W2 := by
 obtain ⟨F, h1, h2, h3⟩ := h
 exact ⟨F, h1.move (fun k hk => hf k (fun e => (h2.1 _ hx).2.1 (e ▸ hk))) hbl.size, h2.put hx hy hf hb Bs' hB, h3.trans hbl⟩
theorem OneR.ddo_over (h : OneR W0 L S Bs Vs W1) (ob : Obj) (hG : Good k S) (hk : k ≤ 1000000) (o : S37) (hw : Opens.OpWf o) (A : Option Addr) (c : Nat) (hC : Kd.C (Kd.int .i64) W0 A o.f6.length o.f6) (hlc : o.f6.length ≤ c) (hlm : o.f6.length ≤ 1000000) :
  Calls Try.prog 14 #[.pointer (some ⟨L.g, 0, none⟩), .agg (opCells o A c)] (W1.alloc ob) fun e W2 => e = .returned (.int .i64 (doS o S).1) ∧ OneR W0 L (doS o S).2 Bs Vs W2 ∧ W2.heap[W1.heap.size]? = some ob := by
 obtain ⟨F, h1, h2, h3⟩ := h
 have hb := below_alloc (Below.refl W1.heap.size W1) ob
 have g1 := h1.below hb
 have g3 := h3.trans (hb.mono h3.size)
 refine (do_calls g1 hG hk o hw A c (Kd.F_mono (Kd.F_below (Kd.C_F (Kd.heap_int _) hC) g3) (fun k hk z => by have := (g1.range _ z).1; omega)) hlc hlm).mono ?_
 rintro e W2 ⟨rfl, F', d1, d2, d3, d4⟩
 refine ⟨rfl, ⟨F', d1, (h2.below hb).kept d3 d2, g3.trans d4⟩, ?_⟩
 exact (d3.2 _ (blk_lt (blk_new W1 ob)) (fun z => by have := (h1.range _ z).2; omega)).trans (blk_new W1 ob)
def TwoR (W0 : World) (L : Lay) (S : DevS) (L2 : Lay) (S2 : DevS) (Bs : List (Nat × Array Value × DevS)) (Vs : List (Value × DevS)) (W1 : World) : Prop :=
  ∃ F F2, DevIs W1 W0.heap.size L F S ∧ DevIs W1 W0.heap.size L2 F2 S2 ∧ (∀ k, F k → ¬ F2 k) ∧ RefsIn W1 (fun k => F k ∨ F2 k) W0.heap.size Bs Vs ∧ Below W0.heap.size W0 W1
theorem RefsIn.wide (h : RefsIn W1 F B Bs Vs) (hF : ∀ k, F' k → F k ∨ W1.heap.size ≤ k) : RefsIn W1 F' B Bs Vs := h.kept (W2 := W1) ⟨Nat.le_refl _, fun _ _ _ => rfl⟩ hF
theorem OneR.clone (h : OneR W0 L S Bs Vs W1) (hf : Good k S) (hk : k ≤ 1000000) :
  Calls Try.prog 16 #[.pointer (some ⟨L.g, 0, none⟩)] W1 fun e W' => ∃ L', e = .returned (.pointer (some ⟨L'.g, 0, none⟩)) ∧ TwoR W0 L' S L S Bs Vs W' := by
 obtain ⟨F, h1, h2, h3⟩ := h
 refine (clone_calls h1 hf.fine hk hf.surv).mono ?_
 rintro e W' ⟨L', he, hd, hb⟩
 refine ⟨L', he, _, F, hd.lower h3.size, h1.below hb, fun k z y => ?_, (h2.wide (F' := fun k => (W1.heap.size ≤ k ∧ k < W'.heap.size) ∨ F k) (fun k z => z.elim (fun y => Or.inr y.1) Or.inl)).below hb, h3.trans (hb.mono h3.size)⟩
 have := (h1.range _ y).2
 omega
theorem TwoR.swap (h : TwoR W0 L S L2 S2 Bs Vs W1) : TwoR W0 L2 S2 L S Bs Vs W1 := by
 obtain ⟨F, F2, h1, h2, h3, h4, h5⟩ := h
 exact ⟨F2, F, h2, h1, fun k z y => h3 k y z, h4.wide (fun k z => Or.inl z.symm), h5⟩
theorem TwoR.bel (h : TwoR W0 L S L2 S2 Bs Vs W1) : Below W0.heap.size W0 W1 := by obtain ⟨_, _, _, _, _, _, h⟩ := h; exact h
theorem TwoR.refs (h : TwoR W0 L S L2 S2 Bs Vs W1) : ∃ F, RefsIn W1 F W0.heap.size Bs Vs := by obtain ⟨F, F2, _, _, _, h, _⟩ := h; exact ⟨_, h⟩
theorem TwoR.blk (h : TwoR W0 L S L2 S2 Bs Vs W1) {b : Nat} {cs : Array Value} (hp : (b, cs, S') ∈ Bs) : W1.heap[b]? = some (.cells cs 31 (0, 0)) := by obtain ⟨F, h⟩ := h.refs; exact h.blk hp
theorem TwoR.ge (h : TwoR W0 L S L2 S2 Bs Vs W1) {bx : Nat} {cs : Array Value} (hx : (bx, cs, S') ∈ Bs) : W0.heap.size ≤ bx := by obtain ⟨F, h⟩ := h.refs; exact (h.1 _ hx).2.2.1
theorem TwoR.seven (h : TwoR W0 L S L2 S2 Bs Vs W1) {bx : Nat} {cs : Array Value} (hx : (bx, cs, S') ∈ Bs) : ∃ A0 A1 A2 A3 A6 n0 n1 n2 n3 n6 c0 c1 c2 c3 c6 fa fu, cs = #[.slice A0 n0 c0, .slice A1 n1 c1, .slice A2 n2 c2, .slice A3 n3 c3, .bool fa, .int .i64 fu, .slice A6 n6 c6] := by
 obtain ⟨F, h⟩ := h.refs; exact h.seven hx
theorem TwoR.val (h : TwoR W0 L S L2 S2 Bs Vs W1) {v : Value} (hv : (v, S') ∈ Vs) : ∃ A0 A1 A2 A3 A6 n0 n1 n2 n3 n6 c0 c1 c2 c3 c6 fa fu, v = .agg #[.slice A0 n0 c0, .slice A1 n1 c1, .slice A2 n2 c2, .slice A3 n3 c3, .bool fa, .int .i64 fu, .slice A6 n6 c6] := by
 obtain ⟨F, h⟩ := h.refs; exact h.val hv
theorem TwoR.below (h : TwoR W0 L S L2 S2 Bs Vs W1) (hb : Below W1.heap.size W1 W2) : TwoR W0 L S L2 S2 Bs Vs W2 := by
 obtain ⟨F, F2, h1, h2, h3, h4, h5⟩ := h
 exact ⟨F, F2, h1.below hb, h2.below hb, h3, h4.below hb, h5.trans (hb.mono h5.size)⟩
theorem TwoR.only (h : TwoR W0 L S L2 S2 Bs Vs W1) (Bs' : List (Nat × Array Value × DevS)) (hB : ∀ p ∈ Bs', p ∈ Bs) (Vs' : List (Value × DevS)) (hV : ∀ p ∈ Vs', p ∈ Vs) : TwoR W0 L S L2 S2 Bs' Vs' W1 := by
 obtain ⟨F, F2, h1, h2, h3, h4, h5⟩ := h
 exact ⟨F, F2, h1, h2, h3, h4.only Bs' hB Vs' hV, h5⟩
theorem TwoR.boxed (h : TwoR W0 L S L2 S2 Bs Vs W1) {cs : Array Value} (hv : ∀ F, RefsIn W1 F W0.heap.size Bs Vs → RefIs W1 (fun k => ¬ F k ∧ ∀ q ∈ Bs, k ≠ q.1) (.agg cs) S') (Vs' : List (Value × DevS)) (hV : ∀ p ∈ Vs', p ∈ Vs) : TwoR W0 L S L2 S2 ((W1.heap.size, cs, S') :: Bs) Vs' (W1.alloc (.cells cs 31)) := by
 obtain ⟨F, F2, h1, h2, h3, h4, h5⟩ := h
 have hb := below_alloc (Below.refl W1.heap.size W1) (.cells cs 31)
 exact ⟨F, F2, h1.below hb, h2.below hb, h3, (h4.box (fun k z => z.elim (fun z => (h1.range k z).2) (fun z => (h2.range k z).2)) h5.size (hv _ h4)).only _ (fun p hp => hp) Vs' hV, h5.trans (hb.mono h5.size)⟩
theorem TwoR.box (h : TwoR W0 L S L2 S2 Bs Vs W1) {cs : Array Value} (hv : (.agg cs, S') ∈ Vs) (Vs' : List (Value × DevS)) (hV : ∀ p ∈ Vs', p ∈ Vs) : TwoR W0 L S L2 S2 ((W1.heap.size, cs, S') :: Bs) Vs' (W1.alloc (.cells cs 31)) := h.boxed (fun F hF => hF.2 _ hv) Vs' hV
theorem TwoR.boxOf (h : TwoR W0 L S L2 S2 Bs Vs W1) {b : Nat} {cs : Array Value} (hv : (b, cs, S') ∈ Bs) : TwoR W0 L S L2 S2 ((W1.heap.size, cs, S') :: Bs) Vs (W1.alloc (.cells cs 31)) := h.boxed (fun F hF => (hF.1 _ hv).2.2.2) Vs (fun p hp => hp)
theorem TwoR.set (h : TwoR W0 L S L2 S2 Bs Vs W1) {bx by_ : Nat} {cs cs' : Array Value} {Sx Sy : DevS} (hx : (bx, cs, Sx) ∈ Bs) (hy : (by_, cs', Sy) ∈ Bs) (hf : ∀ k, k ≠ bx → W2.heap[k]? = W1.heap[k]?) (hb : W2.heap[bx]? = some (.cells cs' 31 (0, 0))) (hbl : Below W0.heap.size W1 W2)
  (Bs' : List (Nat × Array Value × DevS)) (hB : ∀ p ∈ Bs', p ∈ Bs ∧ p.1 ≠ bx) : TwoR W0 L S L2 S2 ((bx, cs', Sy) :: Bs') Vs W2 := by
 obtain ⟨F, F2, h1, h2, h3, h4, h5⟩ := h
 exact ⟨F, F2, h1.move (fun k hk => hf k (fun e => (h4.1 _ hx).2.1 (e ▸ Or.inl hk))) hbl.size, h2.move (fun k hk => hf k (fun e => (h4.1 _ hx).2.1 (e ▸ Or.inr hk))) hbl.size, h3, h4.set hx hy hf hb Bs' hB, h5.trans hbl⟩
theorem TwoR.rdo (h : TwoR W0 L S L2 S2 Bs Vs W1) {bx : Nat} {cs : Array Value} (hx : (bx, cs, S') ∈ Bs) (hG : Good k S') (hk : k ≤ 1000000) (o : S37) (hw : Opens.OpWf o) (A : Option Addr) (c : Nat) (hC : Kd.C (Kd.int .i64) W0 A o.f6.length o.f6) (hlc : o.f6.length ≤ c) (hlm : o.f6.length ≤ 1000000) :
  Calls Try.prog 13 #[.agg cs, .agg (opCells o A c)] W1 fun e W2 => ∃ v', e = .returned (.tuple #[v', .int .i64 (doS o S').1]) ∧ Below W1.heap.size W1 W2 ∧ TwoR W0 L S L2 S2 Bs ((v', (doS o S').2) :: Vs) W2 := by
 obtain ⟨F, F2, h1, h2, h3, h4, h5⟩ := h
 refine (h4.do (fun k z => z.elim (fun z => (h1.range k z).2) (fun z => (h2.range k z).2)) hx hG hk o hw A c (Kd.C_below hC h5) hlc hlm).mono ?_
 rintro e W2 ⟨v', rfl, hb, hR⟩
 exact ⟨v', rfl, hb, F, F2, h1.below hb, h2.below hb, h3, hR, h5.trans (hb.mono h5.size)⟩
theorem TwoR.ddo (h : TwoR W0 L S L2 S2 Bs Vs W1) (hG : Good k S) (hk : k ≤ 1000000) (o : S37) (hw : Opens.OpWf o) (A : Option Addr) (c : Nat) (hC : Kd.C (Kd.int .i64) W0 A o.f6.length o.f6) (hlc : o.f6.length ≤ c) (hlm : o.f6.length ≤ 1000000) :
  Calls Try.prog 14 #[.pointer (some ⟨L.g, 0, none⟩), .agg (opCells o A c)] W1 fun e W2 => e = .returned (.int .i64 (doS o S).1) ∧ TwoR W0 L (doS o S).2 L2 S2 Bs Vs W2 := by
 obtain ⟨F, F2, h1, h2, h3, h4, h5⟩ := h
 refine (do_calls h1 hG hk o hw A c (Kd.F_mono (Kd.F_below (Kd.C_F (Kd.heap_int _) hC) h5) (fun k hk z => by have := (h1.range _ z).1; omega)) hlc hlm).mono ?_
 rintro e W2 ⟨rfl, F', d1, d2, d3, d4⟩
 have d3' : Kept W1 W2 (fun k => F k ∨ F2 k) := ⟨d3.1, fun k hk hz => d3.2 k hk (fun z => hz (Or.inl z))⟩
 refine ⟨rfl, F', F2, d1, h2.kept d3 (fun k z y => h3 k y z), fun k z y => ?_, h4.kept d3' (fun k z => z.elim (fun z => (d2 k z).imp Or.inl id) (fun z => Or.inl (Or.inr z))), h5.trans d4⟩
 rcases d2 k z with z | z
 ·exact h3 k z y
 ·have := (h2.range _ y).2; omega
theorem TwoR.same (h : TwoR W0 L S L2 S2 Bs Vs W1) {bx : Nat} {cs : Array Value} (hx : (bx, cs, S) ∈ Bs) (hG : Good k S) (hk : k ≤ 1000000) :
  Calls Try.prog 15 #[.pointer (some ⟨L.g, 0, none⟩), .agg cs] W1 fun e W2 => e = .returned (.bool true) ∧ Below W1.heap.size W1 W2 := by
 obtain ⟨F, F2, h1, h2, h3, h4, h5⟩ := h
 exact same_calls h1 (h4.1 _ hx).2.2.2 hG.fine hk
end
def runS (l : List S37) (S : DevS) : DevS := l.foldl (fun S o => (doS o S).2) S
theorem runS_step (l : List S37) (S : DevS) (j : Nat) (h : j < l.length) : runS (l.take (j + 1)) S = (doS l[j] (runS (l.take j) S)).2 := by
 unfold runS
 rw [List.take_succ_eq_append_getElem h, List.foldl_append]
 rfl
theorem Good.run {k : Nat} {S : DevS} (h : Good k S) (l : List S37) (hw : ∀ o ∈ l, Opens.OpWf o) (hl : ∀ o ∈ l, o.f6.length ≤ 100) : ∀ j, j ≤ l.length → Good (k + j) (runS (l.take j) S)
 | 0, _ => by rw [List.take_zero]; exact h
 | j + 1, hj => by
  rw [runS_step l S j (by omega)]
  exact (h.run l hw hl j (by omega)).do _ (hw _ (List.getElem_mem _)) (Nat.le_trans (hl _ (List.getElem_mem _)) (by decide))
end Go.Proofs.Ytflajmgichdhhaa.PG
namespace Go.Proofs.Ytflajmgichdhhaa.PG
open Go.RowKit Go.Proofs.YtflajmgichdhhaaW.PrintWords Go.Proofs.YtflajmgichdhhaaW.PrintLast Go.Proofs.YtflajmgichdhhaaW.PrintMore
set_option linter.unusedVariables false
set_option linter.unusedSimpArgs false
theorem set7_low {B : Nat} {w : World} {b : Nat} (hb : B ≤ b) (a0 a1 a2 a3 a4 a5 a6 : Value) : Below B w (set7 w b a0 a1 a2 a3 a4 a5 a6) :=
 (((((((Below.refl B w).setCell (p := ⟨b, 0, none⟩) hb a0).setCell (p := ⟨b, 1, none⟩) hb a1).setCell (p := ⟨b, 2, none⟩) hb a2).setCell (p := ⟨b, 3, none⟩) hb a3).setCell (p := ⟨b, 4, none⟩) hb a4).setCell (p := ⟨b, 5, none⟩) hb a5).setCell (p := ⟨b, 6, none⟩) hb a6
end Go.Proofs.Ytflajmgichdhhaa.PG
namespace Go.Proofs.Ytflajmgichdhhaa.PG
open Go.RowKit Go.Proofs.YtflajmgichdhhaaW.PrintWords Go.Proofs.YtflajmgichdhhaaW.PrintLast Go.Proofs.YtflajmgichdhhaaW.PrintMore
set_option linter.unusedVariables false
set_option linter.unusedSimpArgs false
set_option maxHeartbeats 8000000 in
set_option maxRecDepth 100000 in
theorem clones_calls (W : World) (sec : Int) (hs0 : 0 ≤ sec) (hs1 : sec < 256) (A : Option Addr) (c : Nat) (l : List S37) (hC : Kd.C k37 W A l.length l) (hc : l.length ≤ c) (hm : c ≤ maxLen) (hw : ∀ o ∈ l, Opens.OpWf o)
  (A' : Option Addr) (c' : Nat) (m : List S37) (hC' : Kd.C k37 W A' m.length m) (hc' : m.length ≤ c') (hm' : c' ≤ maxLen) (hw' : ∀ o ∈ m, Opens.OpWf o) :
  Calls Try.prog 4 #[.int .u8 sec, .slice A l.length c, .slice A' m.length c'] W fun e W' => e = .returned (.bool true) ∧ Below W.heap.size W W' := by
 have HC := Aside0.mk hC
 have HWF := Aside0.mk hw
 have HFEW := Aside0.mk (fun (w : World) (h : Below W.heap.size W w) => few_calls w A c l 20 (Kd.C_below hC h) hc hm)
 have HC' := Aside0.mk hC'
 have HWF' := Aside0.mk hw'
 have HFEW' := Aside0.mk (fun (w : World) (h : Below W.heap.size W w) => few_calls w A' c' m 20 (Kd.C_below hC' h) hc' hm')
 clear hC hw hm hC' hw' hm'
 go_enter Try.func4, Try.ntmps4
 go_wp2_with fail
 refine (awake_calls W).mono ?_
 rintro e W1 ⟨rfl, hb1⟩
 have HB1 := Aside0.mk hb1
 clear hb1
 go_wp2_with fail
 refine (HFEW.out W1 HB1.out).mono ?_
 rintro e W2 ⟨r, rfl, hr, hb2⟩
 have HB2 := Aside0.mk (HB1.out.trans (hb2.mono HB1.out.size))
 clear hb2 HFEW HB1
 cases r with
 | false =>
  clear hr
  go_wp2_with fail
  refine (awake_calls W2).mono ?_
  rintro e W9 ⟨rfl, hb9⟩
  have HB9 := Aside0.mk (HB2.out.trans (hb9.mono HB2.out.size))
  clear hb9
  go_wp2_with fail
  go_ret
  exact ⟨rfl, HB9.out⟩
 | true =>
  obtain ⟨hl20, hl100⟩ := hr rfl
  have HL100 := Aside0.mk hl100
  clear hr hl100
  go_wp2_with fail
  refine (HFEW'.out W2 HB2.out).mono ?_
  rintro e W3 ⟨r, rfl, hr, hb3⟩
  have HB3 := Aside0.mk (HB2.out.trans (hb3.mono HB2.out.size))
  clear hb3 HFEW' HB2
  cases r with
  | false =>
   clear hr
   go_wp2_with fail
   refine (awake_calls W3).mono ?_
   rintro e W9 ⟨rfl, hb9⟩
   have HB9 := Aside0.mk (HB3.out.trans (hb9.mono HB3.out.size))
   clear hb9
   go_wp2_with fail
   go_ret
   exact ⟨rfl, HB9.out⟩
  | true =>
   obtain ⟨hm20, hm100⟩ := hr rfl
   have HM100 := Aside0.mk hm100
   clear hr hm100
   obtain ⟨n, hn⟩ : ∃ n : Nat, 1 + sec % 6 = (n : Int) := ⟨(1 + sec % 6).toNat, by omega⟩
   have hn1 : 1 ≤ n := by omega
   have hn2 : n ≤ 6 := by omega
   go_wp2_with fail
   refine (begin_calls W3 sec hs0 hs1 n hn).mono ?_
   rintro e W4 ⟨L, F, v, rfl, hI, hR, hb4⟩
   have hO := OneR.start (W0 := W) (hI.lower HB3.out.size) hR (HB3.out.trans (hb4.mono HB3.out.size))
   obtain ⟨A0_b, A1_b, A2_b, A3_b, A6_b, n0_b, n1_b, n2_b, n3_b, n6_b, c0_b, c1_b, c2_b, c3_b, c6_b, fa_b, fu_b, rfl⟩ := hO.val (List.mem_singleton.2 rfl)
   have HO := Aside0.mk hO
   have HG0 := Aside0.mk (show Good 0 (newS n) from ⟨fine_new n hn1 (by omega), Nat.zero_le _⟩)
   clear hI hR hb4 HB3 hO hn hn1 hn2 hs0 hs1
   go_wp2_with fail
   have hO4 := HO.out.box (List.mem_singleton.2 rfl) [] (fun p hp => by cases hp)
   obtain ⟨bx, hbx⟩ : ∃ bx, bx = W4.heap.size := ⟨_, rfl⟩
   obtain ⟨W5, hW5⟩ : ∃ W5, W5 = W4.alloc (.cells #[.slice A0_b n0_b c0_b, .slice A1_b n1_b c1_b, .slice A2_b n2_b c2_b, .slice A3_b n3_b c3_b, .bool fa_b, .int .i64 fu_b, .slice A6_b n6_b c6_b] 31) := ⟨_, rfl⟩
   rw [← hW5, ← hbx] at hO4
   rw [← hW5, ← hbx]
   have HO4 := Aside0.mk hO4
   clear hO4 hW5 hbx HO
   go_loopg [11, 43] l.length (fun gg _ s43 wr => ∃ (j : Nat) (S : DevS) (cs : Array Value), s43 = .int .i64 j ∧ j ≤ l.length ∧ l.length - j ≤ gg ∧ Aside0 (OneR W L S [(bx, cs, S)] [] wr) ∧ Aside0 (Good j S))
   case atStart => exact ⟨0, newS n, _, by go_num, Nat.zero_le _, by omega, HO4, HG0⟩
   case round =>
    clear HO4 HG0
    obtain ⟨j, S, cs, rfl, hj, hgg, HI, HG⟩ := hrel
    obtain ⟨A0, A1, A2, A3, A6, n0, n1, n2, n3, n6, c0, c1, c2, c3, c6, fa, fu, rfl⟩ := HI.out.seven (List.mem_singleton.2 rfl)
    by_cases hlt : j < l.length
    ·skip
     have hltz : (j : Int) < (l.length : Int) := by omega
     obtain ⟨ad, A7, c7, e, h0, h1, h2, h3, h4, h5, h6, h7, h8, h9⟩ := op_at HC.out HI.out.bel j hlt
     have hwf := HWF.out _ (List.getElem_mem hlt)
     have hf100 := HL100.out _ (List.getElem_mem hlt)
     obtain ⟨o, ho⟩ : ∃ o, o = l[j] := ⟨_, rfl⟩
     rw [← ho] at h0 h1 h2 h3 h4 h5 h6 h7 h8 h9 hwf hf100
     subst e
     have HKK := Aside0.mk (show j ≤ 1000000 by omega)
     have HWO := Aside0.mk hwf
     have H9 := Aside0.mk h9
     have H8 := Aside0.mk h8
     have HFL := Aside0.mk (show o.f6.length ≤ 1000000 by omega)
     have HO_ := Aside0.mk ho
     have HGN := Aside0.mk (HG.out.do o hwf (by omega))
     have hdd := HI.out.ddo_over (.cells #[.int .u8 o.f0, .int .i64 o.f1.f0, .int .i64 o.f1.f1, .int .i64 o.f2, .string o.f3, .int .i64 o.f4, .int .u8 o.f5, .slice A7 o.f6.length c7] 37) HG.out HKK.out o HWO.out A7 c7 H9.out H8.out HFL.out
     obtain ⟨bo, hbo⟩ : ∃ bo, bo = wr.heap.size := ⟨_, rfl⟩
     unfold opCells at hdd
     obtain ⟨r, hr⟩ : ∃ r, r = (doS o S).1 := ⟨_, rfl⟩
     obtain ⟨S', hS'⟩ : ∃ S', S' = (doS o S).2 := ⟨_, rfl⟩
     rw [← hr, ← hS', ← hbo] at hdd
     rw [← hS'] at HGN
     have HR_ := Aside0.mk hr
     have HS_ := Aside0.mk hS'
     have HDD := Aside0.mk hdd
     have HBO := Aside0.mk hbo
     clear ho hwf hf100 h9 h8 hdd hbo hr hS'
     go_wp2_with fail
     refine HDD.out.mono ?_
     rintro e w2 ⟨rfl, hi2, g9⟩
     rw [← HBO.out]
     have gx := hi2.blk (List.mem_singleton.2 rfl)
     have lbo := blk_lt g9
     obtain ⟨q0, q1, q2, q3, q4, q5, q6, q7⟩ := cells8 g9
     obtain ⟨x0, x1, x2, x3, x4, x5, x6⟩ := cells7 gx
     have hrd := hi2.rdo (List.mem_singleton.2 rfl) HG.out HKK.out o HWO.out A7 c7 H9.out H8.out HFL.out
     unfold opCells at hrd
     rw [← HR_.out, ← HS_.out] at hrd
     have HRD := Aside0.mk hrd
     clear hrd hi2 gx g9 HI HDD h0 h1 h2 h3 h4 h5 h6 h7
     go_wp2_with fail
     refine HRD.out.mono ?_
     rintro e w3 ⟨v', rfl, hb3, hi3⟩
     obtain ⟨E0, E1, E2, E3, E6, m0, m1, m2, m3, m6, d0, d1, d2, d3, d6, ma, gu, rfl⟩ := hi3.val (v := v') (S' := S') (List.mem_singleton.2 rfl)
     have gx := hi3.blk (List.mem_singleton.2 rfl)
     clear q0 q1 q2 q3 q4 q5 q6 q7 x0 x1 x2 x3 x4 x5 x6 HRD
     obtain ⟨x0, x1, x2, x3, x4, x5, x6⟩ := cells7 gx
     obtain ⟨z0, z1, z2, z3, z4, z5, z6⟩ := froz7 gx
     have hi6 := hi3.put (W2 := set7 w3 bx (.slice E0 m0 d0) (.slice E1 m1 d1) (.slice E2 m2 d2) (.slice E3 m3 d3) (.bool ma) (.int .i64 gu) (.slice E6 m6 d6)) (List.mem_singleton.2 rfl) (List.mem_singleton.2 rfl) (fun k hk => set7_far w3 bx (.slice E0 m0 d0) (.slice E1 m1 d1) (.slice E2 m2 d2) (.slice E3 m3 d3) (.bool ma) (.int .i64 gu) (.slice E6 m6 d6) k hk) (set7_blk gx (.slice E0 m0 d0) (.slice E1 m1 d1) (.slice E2 m2 d2) (.slice E3 m3 d3) (.bool ma) (.int .i64 gu) (.slice E6 m6 d6)) (set7_low (hi3.ge (List.mem_singleton.2 rfl)) (.slice E0 m0 d0) (.slice E1 m1 d1) (.slice E2 m2 d2) (.slice E3 m3 d3) (.bool ma) (.int .i64 gu) (.slice E6 m6 d6)) [] (fun p hp => by cases hp)
     unfold set7 at hi6
     have HI6 := Aside0.mk hi6
     clear hi6 hi3 gx hb3
     go_wp2_with fail
     go_roundg (l.length - (j + 1))
     case measure => omega
     case rel => exact ⟨j + 1, S', _, by go_num, by omega, Nat.le_refl _, HI6, HGN⟩
    ·obtain rfl : j = l.length := by omega
     have HCL := Aside0.mk (HI.out.clone HG.out (by omega))
     clear hlt hj hgg HI
     go_wp2_with fail
     refine HCL.out.mono ?_
     rintro e W6 ⟨L2, rfl, ht6⟩
     have gx := ht6.blk (List.mem_singleton.2 rfl)
     have lbx := blk_lt gx
     obtain ⟨x0, x1, x2, x3, x4, x5, x6⟩ := cells7 gx
     have HT6 := Aside0.mk ht6
     clear ht6 HCL gx
     go_wp2_with fail
     have ht7 := HT6.out.boxOf (List.mem_singleton.2 rfl)
     obtain ⟨by_, hby⟩ : ∃ b, b = W6.heap.size := ⟨_, rfl⟩
     obtain ⟨W7, hW7⟩ : ∃ W7, W7 = W6.alloc (.cells #[.slice A0 n0 c0, .slice A1 n1 c1, .slice A2 n2 c2, .slice A3 n3 c3, .bool fa, .int .i64 fu, .slice A6 n6 c6] 31) := ⟨_, rfl⟩
     rw [← hW7, ← hby] at ht7
     rw [← hW7, ← hby]
     have ne1 : by_ ≠ bx := by omega
     have ne2 : bx ≠ by_ := fun e => ne1 e.symm
     have HT7 := Aside0.mk ht7
     clear ht7 hW7 hby HT6 lbx x0 x1 x2 x3 x4 x5 x6
     go_loopg [15, 16, 17, 64] m.length (fun gg _ _ _ s64 wr => ∃ (j : Nat) (T : DevS) (cs : Array Value), s64 = .int .i64 j ∧ j ≤ m.length ∧ m.length - j ≤ gg ∧ Aside0 (TwoR W L2 T L S [(by_, cs, T), (bx, #[.slice A0 n0 c0, .slice A1 n1 c1, .slice A2 n2 c2, .slice A3 n3 c3, .bool fa, .int .i64 fu, .slice A6 n6 c6], S)] [] wr) ∧ Aside0 (Good (l.length + j) T) ∧ Aside0 (T = runS (m.take j) S))
     case atStart => exact ⟨0, S, _, by go_num, Nat.zero_le _, by omega, HT7, HG, ⟨rfl⟩⟩
     case round =>
      clear HT7
      obtain ⟨j, T, cs, rfl, hj, hgg, HI, HGT, HRU⟩ := hrel
      obtain ⟨G0, G1, G2, G3, G6, p0, p1, p2, p3, p6, e0, e1, e2, e3, e6, na, hu, rfl⟩ := HI.out.seven (List.mem_cons_self ..)
      by_cases hlt : j < m.length
      ·skip
       have hltz : (j : Int) < (m.length : Int) := by omega
       obtain ⟨ad, A7, c7, e, h0, h1, h2, h3, h4, h5, h6, h7, h8, h9⟩ := op_at HC'.out HI.out.bel j hlt
       have hwf := HWF'.out _ (List.getElem_mem hlt)
       have hf100 := HM100.out _ (List.getElem_mem hlt)
       obtain ⟨o, ho⟩ : ∃ o, o = m[j] := ⟨_, rfl⟩
       rw [← ho] at h0 h1 h2 h3 h4 h5 h6 h7 h8 h9 hwf hf100
       subst e
       have HKK := Aside0.mk (show l.length + j ≤ 1000000 by omega)
       have HWO := Aside0.mk hwf
       have H9 := Aside0.mk h9
       have H8 := Aside0.mk h8
       have HFL := Aside0.mk (show o.f6.length ≤ 1000000 by omega)
       have HO_ := Aside0.mk ho
       have HGN := Aside0.mk (HGT.out.do o hwf (by omega))
       have gy := HI.out.blk (List.mem_cons_self ..)
       have lby := blk_lt gy
       obtain ⟨k0, k1, k2, k3, k4, k5, k6⟩ := cells7 gy
       obtain ⟨bo, hbo⟩ : ∃ bo, bo = wr.heap.size := ⟨_, rfl⟩
       obtain ⟨w1, hw1⟩ : ∃ w1, w1 = wr.alloc (.cells #[.int .u8 o.f0, .int .i64 o.f1.f0, .int .i64 o.f1.f1, .int .i64 o.f2, .string o.f3, .int .i64 o.f4, .int .u8 o.f5, .slice A7 o.f6.length c7] 37) := ⟨_, rfl⟩
       have hb1 : Below wr.heap.size wr w1 := by rw [hw1]; exact below_alloc (Below.refl _ _) _
       have g9 : w1.heap[bo]? = some (.cells #[.int .u8 o.f0, .int .i64 o.f1.f0, .int .i64 o.f1.f1, .int .i64 o.f2, .string o.f3, .int .i64 o.f4, .int .u8 o.f5, .slice A7 o.f6.length c7] 37 (0, 0)) := by rw [hw1, hbo]; exact blk_new _ _
       have hrd := (HI.out.below hb1).rdo (List.mem_cons_self ..) HGT.out HKK.out o HWO.out A7 c7 H9.out H8.out HFL.out
       unfold opCells at hrd
       obtain ⟨r, hr⟩ : ∃ r, r = (doS o T).1 := ⟨_, rfl⟩
       obtain ⟨T', hT'⟩ : ∃ T', T' = (doS o T).2 := ⟨_, rfl⟩
       rw [← hr, ← hT', hw1] at hrd
       rw [← hT'] at HGN
       have HR_ := Aside0.mk hr
       have HS_ := Aside0.mk hT'
       have HRD := Aside0.mk hrd
       have G9 := Aside0.mk g9
       have HW1 := Aside0.mk hw1
       have HBO := Aside0.mk hbo
       clear ho hwf hf100 h9 h8 hrd g9 hb1 gy hw1 hbo hr hT'
       go_wp2_with fail
       refine HRD.out.mono ?_
       rintro e w2 ⟨v', rfl, hb2, hi2⟩
       rw [← HW1.out] at hb2
       rw [← HBO.out]
       obtain ⟨E0, E1, E2, E3, E6, m0, m1, m2, m3, m6, d0, d1, d2, d3, d6, ma, gu, rfl⟩ := hi2.val (v := v') (S' := T') (List.mem_singleton.2 rfl)
       have g9 := blk_below G9.out hb2
       have hlo := blk_lt g9
       obtain ⟨q0, q1, q2, q3, q4, q5, q6, q7⟩ := cells8 g9
       obtain ⟨bz, hbz⟩ : ∃ b, b = w2.heap.size := ⟨_, rfl⟩
       have hdd := (hi2.box (cs := #[.slice E0 m0 d0, .slice E1 m1 d1, .slice E2 m2 d2, .slice E3 m3 d3, .bool ma, .int .i64 gu, .slice E6 m6 d6]) (S' := T') (List.mem_singleton.2 rfl) [] (fun p hp => by cases hp)).ddo HGT.out HKK.out o HWO.out A7 c7 H9.out H8.out HFL.out
       unfold opCells at hdd
       rw [← HR_.out, ← HS_.out, ← hbz] at hdd
       have HDD := Aside0.mk hdd
       have HBZ := Aside0.mk hbz
       have HNE := Aside0.mk (show bz ≠ by_ from fun e => by have := blk_lt (hi2.blk (List.mem_cons_self ..)); omega)
       clear hi2 hb2 g9 hdd hbz HI HRD h0 h1 h2 h3 h4 h5 h6 h7 G9 k0 k1 k2 k3 k4 k5 k6 lby
       go_wp2_with fail
       refine HDD.out.mono ?_
       rintro e w4 ⟨rfl, hi4⟩
       rw [← HBZ.out]
       have gz := hi4.blk (List.mem_cons_self ..)
       have gy := hi4.blk (List.mem_cons_of_mem _ (List.mem_cons_self ..))
       clear q0 q1 q2 q3 q4 q5 q6 q7 HDD hlo
       obtain ⟨k0, k1, k2, k3, k4, k5, k6⟩ := cells7 gz
       obtain ⟨y0, y1, y2, y3, y4, y5, y6⟩ := cells7 gy
       obtain ⟨z0, z1, z2, z3, z4, z5, z6⟩ := froz7 gy
       have ne3 : bz ≠ by_ := HNE.out
       have ne4 : by_ ≠ bz := fun e => ne3 e.symm
       have hrr : (r != r) = false := by simp
       have hi6 := hi4.set (W2 := set7 w4 by_ (.slice E0 m0 d0) (.slice E1 m1 d1) (.slice E2 m2 d2) (.slice E3 m3 d3) (.bool ma) (.int .i64 gu) (.slice E6 m6 d6)) (List.mem_cons_of_mem _ (List.mem_cons_self ..)) (List.mem_cons_self ..) (fun k hk => set7_far w4 by_ (.slice E0 m0 d0) (.slice E1 m1 d1) (.slice E2 m2 d2) (.slice E3 m3 d3) (.bool ma) (.int .i64 gu) (.slice E6 m6 d6) k hk) (set7_blk gy (.slice E0 m0 d0) (.slice E1 m1 d1) (.slice E2 m2 d2) (.slice E3 m3 d3) (.bool ma) (.int .i64 gu) (.slice E6 m6 d6)) (set7_low (hi4.ge (List.mem_cons_of_mem _ (List.mem_cons_self ..))) (.slice E0 m0 d0) (.slice E1 m1 d1) (.slice E2 m2 d2) (.slice E3 m3 d3) (.bool ma) (.int .i64 gu) (.slice E6 m6 d6)) [(bx, #[.slice A0 n0 c0, .slice A1 n1 c1, .slice A2 n2 c2, .slice A3 n3 c3, .bool fa, .int .i64 fu, .slice A6 n6 c6], S)] (fun p hp => by
        obtain rfl := List.mem_singleton.1 hp
        exact ⟨by simp, ne2⟩)
       unfold set7 at hi6
       have HI6 := Aside0.mk hi6
       have HRN := Aside0.mk (show T' = runS (m.take (j + 1)) S by rw [runS_step m S j hlt, ← HRU.out, ← HO_.out]; exact HS_.out)
       clear hi6 hi4 gy gz
       go_wp2_with fail
       go_roundg (m.length - (j + 1))
       case measure => omega
       case rel => exact ⟨j + 1, T', _, by go_num, by omega, Nat.le_refl _, HI6, HGN, HRN⟩
      ·obtain rfl : j = m.length := by omega
       have gy := HI.out.blk (List.mem_cons_self ..)
       obtain ⟨k0, k1, k2, k3, k4, k5, k6⟩ := cells7 gy
       have HSM := Aside0.mk (HI.out.same (List.mem_cons_self ..) HGT.out (by omega))
       clear hlt hj hgg gy
       go_wp2_with fail
       refine HSM.out.mono ?_
       rintro e w5 ⟨rfl, hb5⟩
       have hi5 := HI.out.below hb5
       have gx := hi5.blk (List.mem_cons_of_mem _ (List.mem_singleton.2 rfl))
       clear k0 k1 k2 k3 k4 k5 k6 HSM
       obtain ⟨x0, x1, x2, x3, x4, x5, x6⟩ := cells7 gx
       have HSM := Aside0.mk (hi5.swap.same (List.mem_cons_of_mem _ (List.mem_singleton.2 rfl)) HG.out (by omega))
       have HI5 := Aside0.mk hi5
       clear hb5 hi5 gx HI
       go_wp2_with fail
       refine HSM.out.mono ?_
       rintro e w6 ⟨rfl, hb6⟩
       have HI6 := Aside0.mk ((HI5.out.below hb6).swap.only [(by_, #[.slice G0 p0 e0, .slice G1 p1 e1, .slice G2 p2 e2, .slice G3 p3 e3, .bool na, .int .i64 hu, .slice G6 p6 e6], T)] (fun p hp => by obtain rfl := List.mem_singleton.1 hp; exact (List.mem_cons_self ..)) [] (fun p hp => by cases hp))
       clear hb6 HI5 HSM x0 x1 x2 x3 x4 x5 x6
       go_wp2_with fail
       go_loopg [19, 93] m.length (fun gg _ s93 wr => ∃ (j : Nat) (T1 : DevS), s93 = .int .i64 j ∧ j ≤ m.length ∧ m.length - j ≤ gg ∧ Aside0 (TwoR W L T1 L2 T [(by_, #[.slice G0 p0 e0, .slice G1 p1 e1, .slice G2 p2 e2, .slice G3 p3 e3, .bool na, .int .i64 hu, .slice G6 p6 e6], T)] [] wr) ∧ Aside0 (Good (l.length + j) T1) ∧ Aside0 (T1 = runS (m.take j) S))
       case atStart => exact ⟨0, S, by go_num, Nat.zero_le _, by omega, HI6, HG, ⟨rfl⟩⟩
       case round =>
        clear HI6
        obtain ⟨j, T1, rfl, hj, hgg, HI, HG1, HRU1⟩ := hrel
        by_cases hlt : j < m.length
        ·skip
         have hltz : (j : Int) < (m.length : Int) := by omega
         obtain ⟨ad, A7, c7, e, h0, h1, h2, h3, h4, h5, h6, h7, h8, h9⟩ := op_at HC'.out HI.out.bel j hlt
         have hwf := HWF'.out _ (List.getElem_mem hlt)
         have hf100 := HM100.out _ (List.getElem_mem hlt)
         obtain ⟨o, ho⟩ : ∃ o, o = m[j] := ⟨_, rfl⟩
         rw [← ho] at h0 h1 h2 h3 h4 h5 h6 h7 h8 h9 hwf hf100
         subst e
         have HKK := Aside0.mk (show l.length + j ≤ 1000000 by omega)
         have HWO := Aside0.mk hwf
         have H9 := Aside0.mk h9
         have H8 := Aside0.mk h8
         have HFL := Aside0.mk (show o.f6.length ≤ 1000000 by omega)
         have HO_ := Aside0.mk ho
         have HGN := Aside0.mk (HG1.out.do o hwf (by omega))
         obtain ⟨w1, hw1⟩ : ∃ w1, w1 = wr.alloc (.cells #[.int .u8 o.f0, .int .i64 o.f1.f0, .int .i64 o.f1.f1, .int .i64 o.f2, .string o.f3, .int .i64 o.f4, .int .u8 o.f5, .slice A7 o.f6.length c7] 37) := ⟨_, rfl⟩
         have hb1 : Below wr.heap.size wr w1 := by rw [hw1]; exact below_alloc (Below.refl _ _) _
         have hdd := (HI.out.below hb1).ddo HG1.out HKK.out o HWO.out A7 c7 H9.out H8.out HFL.out
         unfold opCells at hdd
         rw [hw1] at hdd
         have HDD := Aside0.mk hdd
         clear ho hwf hf100 h9 h8 hdd hb1 hw1 HI
         go_wp2_with fail
         refine HDD.out.mono ?_
         rintro e w2 ⟨rfl, hi2⟩
         have HI6 := Aside0.mk hi2
         have HRN := Aside0.mk (show (doS o T1).2 = runS (m.take (j + 1)) S by rw [runS_step m S j hlt, ← HRU1.out, ← HO_.out])
         clear hi2 HDD h0 h1 h2 h3 h4 h5 h6 h7
         go_wp2_with fail
         go_roundg (m.length - (j + 1))
         case measure => omega
         case rel => exact ⟨j + 1, _, by go_num, by omega, Nat.le_refl _, HI6, HGN, HRN⟩
        ·obtain rfl : j = m.length := by omega
         obtain rfl : T1 = T := HRU1.out.trans HRU.out.symm
         have gy := HI.out.blk (List.mem_singleton.2 rfl)
         obtain ⟨k0, k1, k2, k3, k4, k5, k6⟩ := cells7 gy
         have HSM := Aside0.mk (HI.out.same (List.mem_singleton.2 rfl) HGT.out (by omega))
         clear hlt hj hgg gy
         go_wp2_with fail
         refine HSM.out.mono ?_
         rintro e w7 ⟨rfl, hb7⟩
         have hi7 := HI.out.below hb7
         have gy := hi7.blk (List.mem_singleton.2 rfl)
         clear k0 k1 k2 k3 k4 k5 k6 HSM
         obtain ⟨k0, k1, k2, k3, k4, k5, k6⟩ := cells7 gy
         have HSM := Aside0.mk (hi7.swap.same (List.mem_singleton.2 rfl) HGT.out (by omega))
         have HI7 := Aside0.mk hi7
         clear hb7 hi7 gy HI
         go_wp2_with fail
         refine HSM.out.mono ?_
         rintro e w8 ⟨rfl, hb8⟩
         have HI8 := Aside0.mk (HI7.out.below hb8)
         clear hb8 HI7 HSM k0 k1 k2 k3 k4 k5 k6
         go_wp2_with fail
         go_ret
         exact ⟨rfl, HI8.out.bel⟩
end Go.Proofs.Ytflajmgichdhhaa.PG

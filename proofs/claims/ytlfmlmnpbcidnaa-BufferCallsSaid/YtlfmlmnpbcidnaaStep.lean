/- The walk of step. -/
import Derived.Test.YtlfmlmnpbcidnaaSame
import Derived.BigQuiet
import Derived.Test.YtlfmlmnpbcidnaaPGx4
import Derived.Test.YtlfmlmnpbcidnaaPGx5
namespace Go.Proofs.Ytlfmlmnpbcidnaa.PG
open Go.RowKit Go.Proofs.YtlfmlmnpbcidnaaW.PrintWords Go.Proofs.YtlfmlmnpbcidnaaW.PrintLast Go.Proofs.YtlfmlmnpbcidnaaW.PrintMore
set_option linter.unusedVariables false
set_option linter.unusedSimpArgs false
attribute [local go_sem high] eqA40
set_option maxRecDepth 100000 in
theorem zero54 (w : World) : (zeroValue 54).run Try.prog w = .ok (.agg #[.int .i64 0, .slice none 0 0, .int .i64 0, .int .i64 0]) w := by kernel_rfl
def StepPost (W0 W : World) (g : Nat) (F : Nat → Prop) (v : Value) (S' : PoolS) (v1 : Value) (W' : World) : Prop :=
  ∃ F' : Nat → Prop, PoolIs W' W0.heap.size g F' S' ∧ Kd.R k70 70 W' W0.heap.size (fun k => ¬ F' k) v1 (pgs S'.ents) ∧ Below W0.heap.size W0 W' ∧ Kept W W' (fun k => F k ∨ some k = v.ownBlock) ∧ ∀ k, F' k → F k ∨ W.heap.size ≤ k
theorem step_fin {W0 W W1 W2 W3 W' : World} {g : Nat} {F P : Nat → Prop} {v v1 : Value} {S' : PoolS} (hs0 : W0.heap.size ≤ W.heap.size) (hs1 : W1.heap.size = W.heap.size + 3) (hb1 : Below W.heap.size W W1) (hPd : ∀ k, P k ↔ some k = v.ownBlock) (hPl : ∀ k, P k → k < W.heap.size ∧ ¬ F k) (hFl : ∀ k, F k → k < W.heap.size)
    (hB3 : Below W0.heap.size W0 W3) (hp2 : PoolPost W0.heap.size g F S' W1 W2) (hk3 : Kept W2 W3 P) (hR3 : Kd.R k70 70 W3 W0.heap.size (fun k => P k ∨ W2.heap.size ≤ k) v1 (pgs S'.ents))
    (hk' : Kept W3 W' (fun k => k = W.heap.size + 1 + 1)) (hb' : Below W0.heap.size W3 W') : StepPost W0 W g F v S' v1 W' := by
  obtain ⟨F2, h1, h2, h3, h4⟩ := hp2
  have s2 := h3.1
  have s3 := hk3.1
  have nx : ∀ k, F2 k → k ≠ W.heap.size + 1 + 1 := fun k z => (h2 k z).elim (fun y => by have := hFl k y; omega) (fun y => by omega)
  refine ⟨F2, h1.move (fun k z => (hk'.2 k ?_ (nx k z)).trans (hk3.2 k (h1.range k z).2 (fun y => (h2 k z).elim (hPl k y).2 (fun q => by have := (hPl k y).1; omega)))) (by have := hk'.1; omega), ?_, hB3.trans hb', ?_, fun k z => (h2 k z).imp id (fun y => by omega)⟩
  · have := (h1.range k z).2; omega
  · refine Kd.R_mono (Kd.R_move (Kd.R_mono (Kd.R_bound hR3) (fun k hk => (⟨hk.1, hk.2.2.1⟩ : (P k ∨ W2.heap.size ≤ k) ∧ k < W3.heap.size))) (fun k hk => ?_)) (fun k hk z => ?_)
    · exact hk'.2 k hk.2 (fun z => hk.1.elim (fun y => by have := (hPl k y).1; omega) (fun y => by omega))
    · exact hk.1.elim (fun y => (h2 k z).elim (hPl k y).2 (fun q => by have := (hPl k y).1; omega)) (fun y => by have := (h1.range k z).2; omega)
  · refine ⟨by have := hk'.1; omega, fun k hk hn => ?_⟩
    have nF : ¬ F k := fun z => hn (Or.inl z)
    have nP : ¬ P k := fun z => hn (Or.inr ((hPd k).1 z))
    exact (hk'.2 k (by omega) (by omega)).trans ((hk3.2 k (by omega) nP).trans ((h3.2 k (by omega) nF).trans (hb1.block k hk)))
/-- The result's cell, written place by place. -/
def w4 (W : World) (b : Nat) (a0 a1 a2 a3 : Value) : World := (((W.setCell ⟨b, 0, none⟩ a0).setCell ⟨b, 1, none⟩ a1).setCell ⟨b, 2, none⟩ a2).setCell ⟨b, 3, none⟩ a3
theorem w4_blk {W : World} {b : Nat} {u0 u1 u2 u3 a0 a1 a2 a3 : Value} (h : W.heap[b]? = some (.cells #[u0, u1, u2, u3] 54 (0, 0))) : (w4 W b a0 a1 a2 a3).heap[b]? = some (.cells #[a0, a1, a2, a3] 54 (0, 0)) :=
  blk_put (cs := #[a0, a1, a2, u3]) (blk_put (cs := #[a0, a1, u2, u3]) (blk_put (cs := #[a0, u1, u2, u3]) (blk_put h 0 a0 rfl) 1 a1 rfl) 2 a2 rfl) 3 a3 rfl
theorem w4_kept (W : World) (b : Nat) (a0 a1 a2 a3 : Value) : Kept W (w4 W b a0 a1 a2 a3) (fun k => k = b) :=
  ((((Kept.refl W (fun k => k = b)).setCell (p := ⟨b, 0, none⟩) (Or.inl rfl) a0).setCell (p := ⟨b, 1, none⟩) (Or.inl rfl) a1).setCell (p := ⟨b, 2, none⟩) (Or.inl rfl) a2).setCell (p := ⟨b, 3, none⟩) (Or.inl rfl) a3
theorem w4_size (W : World) (b : Nat) (a0 a1 a2 a3 : Value) : (w4 W b a0 a1 a2 a3).heap.size = W.heap.size := by simp [w4, World.setCell]
theorem w4_below (W : World) (B b : Nat) (hb : B ≤ b) (a0 a1 a2 a3 : Value) : Below B W (w4 W b a0 a1 a2 a3) :=
  ((((Below.refl B W).setCell (p := ⟨b, 0, none⟩) hb a0).setCell (p := ⟨b, 1, none⟩) hb a1).setCell (p := ⟨b, 2, none⟩) hb a2).setCell (p := ⟨b, 3, none⟩) hb a3
set_option maxHeartbeats 4000000 in
set_option maxRecDepth 100000 in
theorem step_calls (W0 W : World) (g k : Nat) (F : Nat → Prop) (S : PoolS) (o : S38) (v : Value) (hB : Below W0.heap.size W0 W) (hP : PoolIs W W0.heap.size g F S) (hf : Fine k S) (hk : k < 1000) (hR : Kd.R k70 70 W W0.heap.size (fun k => ¬ F k) v (pgs S.ents)) :
    Calls Try.prog 22 #[.pointer (some ⟨g, 0, none⟩), .agg #[.int .i64 S.cap, v, .int .i64 S.hits, .int .i64 S.miss], encO o] W fun e W' => ∃ v1, e = .returned (.tuple #[.agg #[.int .i64 (doS o S).cap, v1, .int .i64 (doS o S).hits, .int .i64 (doS o S).miss], .bool true]) ∧ StepPost W0 W g F v (doS o S) v1 W' := by
  have hs0 := hB.size
  have hFl : ∀ k, F k → k < W.heap.size := fun k z => (hP.range k z).2
  obtain ⟨A, n, c, hv⟩ : ∃ A n c, v = .slice A n c := by obtain ⟨A, c, h⟩ := Kd.R_slice hR; exact ⟨A, _, c, h⟩
  subst hv
  obtain ⟨P, hPd⟩ : ∃ P : Nat → Prop, ∀ k, P k ↔ some k = (Value.slice A n c).ownBlock := ⟨_, fun k => Iff.rfl⟩
  have hRt : Kd.R k70 70 W W0.heap.size P (.slice A n c) (pgs S.ents) := Kd.R_mono (Kd.R_tight rfl hR) (fun k hk => (hPd k).2 hk)
  have hPl : ∀ k, P k → k < W.heap.size ∧ ¬ F k := fun k z => ⟨Kd.R_lt hR k ((hPd k).1 z).symm, hR.1 k ((hPd k).1 z).symm⟩
  obtain ⟨W1, hW1⟩ : ∃ W1, W1 = ((W.alloc (.cells #[.int .i64 S.cap, .slice A n c, .int .i64 S.hits, .int .i64 S.miss] 54)).alloc (.cells #[.int .i64 o.f0, .int .i64 o.f1, .int .i64 o.f2, .int .i64 o.f3, .string o.f4] 38)).alloc (.cells #[.int .i64 0, .slice none 0 0, .int .i64 0, .int .i64 0] 54) := ⟨_, rfl⟩
  have hb1 : Below W.heap.size W W1 := by rw [hW1]; exact below_alloc (below_two _ _ _) _
  have hs1 : W1.heap.size = W.heap.size + 3 := by rw [hW1, size_alloc1, size_alloc1, size_alloc1]
  have b4 : W1.heap[W.heap.size]? = some (.cells #[.int .i64 S.cap, .slice A n c, .int .i64 S.hits, .int .i64 S.miss] 54 (0, 0)) := by rw [hW1]; exact blk_alloc (blk_alloc (blk_new _ _) _) _
  have b5 : W1.heap[W.heap.size + 1]? = some (.cells #[.int .i64 o.f0, .int .i64 o.f1, .int .i64 o.f2, .int .i64 o.f3, .string o.f4] 38 (0, 0)) := by
    have := blk_new (W.alloc (.cells #[.int .i64 S.cap, .slice A n c, .int .i64 S.hits, .int .i64 S.miss] 54)) (.cells #[.int .i64 o.f0, .int .i64 o.f1, .int .i64 o.f2, .int .i64 o.f3, .string o.f4] 38)
    rw [size_alloc1] at this
    rw [hW1]; exact blk_alloc this _
  have b6 : W1.heap[W.heap.size + 1 + 1]? = some (.cells #[.int .i64 0, .slice none 0 0, .int .i64 0, .int .i64 0] 54 (0, 0)) := by
    have := blk_new ((W.alloc (.cells #[.int .i64 S.cap, .slice A n c, .int .i64 S.hits, .int .i64 S.miss] 54)).alloc (.cells #[.int .i64 o.f0, .int .i64 o.f1, .int .i64 o.f2, .int .i64 o.f3, .string o.f4] 38)) (.cells #[.int .i64 0, .slice none 0 0, .int .i64 0, .int .i64 0] 54)
    rw [size_alloc1, size_alloc1] at this
    rw [hW1]; exact this
  have HP1 := Aside0.mk (hP.below hb1)
  have HR1 := Aside0.mk (Kd.R_below hRt hb1)
  have HP0 := Aside0.mk hP
  have HR0 := Aside0.mk hR
  have HF := Aside0.mk hf
  have HPD := Aside0.mk hPd
  have HPL := Aside0.mk hPl
  have HFL := Aside0.mk hFl
  have HB1 := Aside0.mk hb1
  have HBB := Aside0.mk hB
  have B4 := Aside0.mk b4
  have B5 := Aside0.mk b5
  have B6 := Aside0.mk b6
  have HS := Aside0.mk hs1
  have keep2 : ∀ {W2 : World} {i : Nat} {ob : Obj}, W1.heap[i]? = some ob → W.heap.size ≤ i → Kept W1 W2 F → W2.heap[i]? = some ob := fun h hi hk => blk_kept h hk (fun z => by have := hFl _ z; omega)
  have keep3 : ∀ {W2 W3 : World} {i : Nat} {ob : Obj}, W2.heap[i]? = some ob → W.heap.size ≤ i → Kept W2 W3 P → W3.heap[i]? = some ob := fun h hi hk => blk_kept h hk (fun z => by have := (hPl _ z).1; omega)
  have K2 := Aside0.mk @keep2
  have K3 := Aside0.mk @keep3
  have hu54 := Try.underlying54
  clear hb1 b4 b5 b6 keep2 keep3 hPd hPl hFl hRt hR hP hf hB
  have hsm := HF.out.small
  have hh := HF.out.h0
  have hm := HF.out.m0
  unfold encO
  by_cases c0 : o.f0 = 0
  · have d0 : (o.f0 == 0) = true := by rw [c0]; rfl
    have HD := Aside0.mk (show doS o S = getS ⟨o.f1, o.f2⟩ S by unfold doS; rw [if_pos c0]; rfl)
    clear c0
    go_enter Try.func22, Try.ntmps22
    go_wp2_with (rw [← hW1])
    refine (get_calls W1 W0.heap.size g k F S ⟨o.f1, o.f2⟩ HP1.out HF.out hk).mono ?_
    rintro e W2 ⟨rfl, hp2⟩
    have HP2 := Aside0.mk hp2
    have hk2 := hp2.choose_spec.2.2.1
    have hb2 := hp2.choose_spec.2.2.2
    have B42 := Aside0.mk (K2.out B4.out (Nat.le_refl _) hk2)
    have B52 := Aside0.mk (K2.out B5.out (by omega) hk2)
    have B62 := Aside0.mk (K2.out B6.out (by omega) hk2)
    have hs2 : W.heap.size + 3 ≤ W2.heap.size := by have := hk2.1; omega
    have HB2 := Aside0.mk ((HBB.out.trans (HB1.out.mono hs0)).trans hb2)
    have HR2 := Aside0.mk (Kd.R_move HR1.out (fun k z => hk2.2 k (by have := (HPL.out k z).1; omega) (HPL.out k z).2))
    have r0 : W2.cell? ⟨W.heap.size, 0, none⟩ = some (.int .i64 S.cap) := by rw [blk_cell B42.out]; rfl
    have r1 : W2.cell? ⟨W.heap.size, 1, none⟩ = some (.slice A n c) := by rw [blk_cell B42.out]; rfl
    have r2 : W2.cell? ⟨W.heap.size, 2, none⟩ = some (.int .i64 S.hits) := by rw [blk_cell B42.out]; rfl
    have r3 : W2.cell? ⟨W.heap.size, 3, none⟩ = some (.int .i64 S.miss) := by rw [blk_cell B42.out]; rfl
    have x1 : W2.cell? ⟨W.heap.size + 1, 1, none⟩ = some (.int .i64 o.f1) := by rw [blk_cell B52.out]; rfl
    have x2 : W2.cell? ⟨W.heap.size + 1, 2, none⟩ = some (.int .i64 o.f2) := by rw [blk_cell B52.out]; rfl
    have x3 : W2.cell? ⟨W.heap.size + 1, 3, none⟩ = some (.int .i64 o.f3) := by rw [blk_cell B52.out]; rfl
    have x4 : W2.cell? ⟨W.heap.size + 1, 4, none⟩ = some (.string o.f4) := by rw [blk_cell B52.out]; rfl
    clear hp2 hk2 hb2
    go_wp2_with fail
    obtain ⟨kq, hq⟩ := get_is ⟨o.f1, o.f2⟩ S hsm HF.out.nd ⟨hh.1, by omega⟩ ⟨hm.1, by omega⟩
    refine (dasdref25_Get.calls kq S.cap P (.slice A n c) (pgs S.ents) S.hits S.miss o.f1 o.f2 _ _ _ _ _ _ _ W0 W2 HB2.out HR2.out hq).mono ?_
    rintro e W3 ⟨v1, rfl, hR3, hb3, hk3⟩
    have HR3 := Aside0.mk hR3
    have HK3 := Aside0.mk hk3
    have HB3 := Aside0.mk hb3
    obtain ⟨A1, n1, c1, hv1⟩ : ∃ A1 n1 c1, v1 = .slice A1 n1 c1 := by obtain ⟨A, c, h⟩ := Kd.R_slice hR3; exact ⟨A, _, c, h⟩
    subst hv1
    have hs3 : W.heap.size + 3 ≤ W3.heap.size := by have := hk3.1; omega
    have hlt6 : W.heap.size + 1 + 1 < W3.heap.size := by omega
    have B63 := Aside0.mk (K3.out B62.out (by omega) hk3)
    have f0 : W3.frozen? ⟨W.heap.size + 1 + 1, 0, none⟩ = false := blk_frozen B63.out 0
    have f1 : W3.frozen? ⟨W.heap.size + 1 + 1, 1, none⟩ = false := blk_frozen B63.out 1
    have f2 : W3.frozen? ⟨W.heap.size + 1 + 1, 2, none⟩ = false := blk_frozen B63.out 2
    have f3 : W3.frozen? ⟨W.heap.size + 1 + 1, 3, none⟩ = false := blk_frozen B63.out 3
    have z0 : W3.cell? ⟨W.heap.size + 1 + 1, 0, none⟩ = some (.int .i64 0) := by rw [blk_cell B63.out]; rfl
    have z1 : W3.cell? ⟨W.heap.size + 1 + 1, 1, none⟩ = some (.slice none 0 0) := by rw [blk_cell B63.out]; rfl
    have z2 : W3.cell? ⟨W.heap.size + 1 + 1, 2, none⟩ = some (.int .i64 0) := by rw [blk_cell B63.out]; rfl
    have z3 : W3.cell? ⟨W.heap.size + 1 + 1, 3, none⟩ = some (.int .i64 0) := by rw [blk_cell B63.out]; rfl
    clear hR3 hb3 hk3 r0 r1 r2 r3 x1 x2 x3 x4 hq
    go_wp2_with fail
    rw [HD.out]
    have hbk := w4_blk (a0 := .int .i64 (getS ⟨o.f1, o.f2⟩ S).cap) (a1 := .slice A1 n1 c1) (a2 := .int .i64 (getS ⟨o.f1, o.f2⟩ S).hits) (a3 := .int .i64 (getS ⟨o.f1, o.f2⟩ S).miss) B63.out
    refine bodyPost_ret (results_ct rfl _ _ (W.heap.size + 1 + 1) 54 #[.int .i64 (getS ⟨o.f1, o.f2⟩ S).cap, .slice A1 n1 c1, .int .i64 (getS ⟨o.f1, o.f2⟩ S).hits, .int .i64 (getS ⟨o.f1, o.f2⟩ S).miss] (0, 0) _ rfl (blk_alloc hbk _) Try.underlying54 rfl (by kernel_rfl)) rfl ?_
    refine ⟨_, rfl, step_fin hs0 HS.out HB1.out HPD.out HPL.out HFL.out HB3.out HP2.out HK3.out HR3.out ((w4_kept W3 _ _ _ _ _).alloc _) ((w4_below W3 _ _ (by omega) _ _ _ _).trans ((below_alloc (Below.refl _ _) _).mono (by have e := w4_size W3 (W.heap.size + 1 + 1); simp only [w4] at e; simp only [w4, e]; omega)))⟩
  · have d0 : (o.f0 == 0) = false := beq_eq_false_iff_ne.2 c0
    by_cases c1 : o.f0 = 1
    · have d1 : (o.f0 == 1) = true := by rw [c1]; rfl
      have HD := Aside0.mk (show doS o S = putS ⟨o.f1, o.f2⟩ ⟨o.f4, o.f3⟩ S by unfold doS; rw [if_neg c0, if_pos c1]; rfl)
      clear c0 c1
      go_enter Try.func22, Try.ntmps22
      go_wp2_with (rw [← hW1])
      refine (put_calls W1 W0.heap.size g F S ⟨o.f1, o.f2⟩ ⟨o.f4, o.f3⟩ HP1.out (by omega)).mono ?_
      rintro e W2 ⟨rfl, hp2⟩
      have HP2 := Aside0.mk hp2
      have hk2 := hp2.choose_spec.2.2.1
      have hb2 := hp2.choose_spec.2.2.2
      have B42 := Aside0.mk (K2.out B4.out (Nat.le_refl _) hk2)
      have B52 := Aside0.mk (K2.out B5.out (by omega) hk2)
      have B62 := Aside0.mk (K2.out B6.out (by omega) hk2)
      have hs2 : W.heap.size + 3 ≤ W2.heap.size := by have := hk2.1; omega
      have HB2 := Aside0.mk ((HBB.out.trans (HB1.out.mono hs0)).trans hb2)
      have HR2 := Aside0.mk (Kd.R_move HR1.out (fun k z => hk2.2 k (by have := (HPL.out k z).1; omega) (HPL.out k z).2))
      have r0 : W2.cell? ⟨W.heap.size, 0, none⟩ = some (.int .i64 S.cap) := by rw [blk_cell B42.out]; rfl
      have r1 : W2.cell? ⟨W.heap.size, 1, none⟩ = some (.slice A n c) := by rw [blk_cell B42.out]; rfl
      have r2 : W2.cell? ⟨W.heap.size, 2, none⟩ = some (.int .i64 S.hits) := by rw [blk_cell B42.out]; rfl
      have r3 : W2.cell? ⟨W.heap.size, 3, none⟩ = some (.int .i64 S.miss) := by rw [blk_cell B42.out]; rfl
      have x1 : W2.cell? ⟨W.heap.size + 1, 1, none⟩ = some (.int .i64 o.f1) := by rw [blk_cell B52.out]; rfl
      have x2 : W2.cell? ⟨W.heap.size + 1, 2, none⟩ = some (.int .i64 o.f2) := by rw [blk_cell B52.out]; rfl
      have x3 : W2.cell? ⟨W.heap.size + 1, 3, none⟩ = some (.int .i64 o.f3) := by rw [blk_cell B52.out]; rfl
      have x4 : W2.cell? ⟨W.heap.size + 1, 4, none⟩ = some (.string o.f4) := by rw [blk_cell B52.out]; rfl
      clear hp2 hk2 hb2
      go_wp2_with fail
      obtain ⟨kq, hq⟩ := put_is ⟨o.f1, o.f2⟩ ⟨o.f4, o.f3⟩ S hsm HF.out.nd
      have hOW := Kd.R_reads' HR2.out
      have hle3 : (pgs S.ents).length ≤ c := by have h1 := hOW.1; have h2 := hOW.2.1; omega
      have hC2 := hOW.2.2
      rw [hOW.1]
      refine (dasdref25_Put.calls kq S.cap A c (pgs S.ents) S.hits S.miss o.f1 o.f2 o.f4 o.f3 _ _ _ _ W2 hC2 hle3 hq).mono ?_
      rintro e W3 ⟨v1, rfl, hR3', hb3'⟩
      have hb3 := HB2.out.trans (hb3'.mono (show W0.heap.size ≤ W2.heap.size by omega))
      have hk3 := Kept.of_below hb3' P
      have hR3 : Kd.R k70 70 W3 W0.heap.size (fun k => P k ∨ W2.heap.size ≤ k) v1 _ := Kd.R_mono (Kd.R_lower (Kd.R_mono (Kd.R_bound hR3') (fun k hk => (hk.2.1 : W2.heap.size ≤ k))) (show W0.heap.size ≤ W2.heap.size by omega)) (fun k hk => Or.inr hk)
      have HR3 := Aside0.mk hR3
      have HK3 := Aside0.mk hk3
      have HB3 := Aside0.mk hb3
      obtain ⟨A1, n1, c1, hv1⟩ : ∃ A1 n1 c1, v1 = .slice A1 n1 c1 := by obtain ⟨A, c, h⟩ := Kd.R_slice hR3; exact ⟨A, _, c, h⟩
      subst hv1
      have hs3 : W.heap.size + 3 ≤ W3.heap.size := by have := hk3.1; omega
      have hlt6 : W.heap.size + 1 + 1 < W3.heap.size := by omega
      have B63 := Aside0.mk (K3.out B62.out (by omega) hk3)
      have f0 : W3.frozen? ⟨W.heap.size + 1 + 1, 0, none⟩ = false := blk_frozen B63.out 0
      have f1 : W3.frozen? ⟨W.heap.size + 1 + 1, 1, none⟩ = false := blk_frozen B63.out 1
      have f2 : W3.frozen? ⟨W.heap.size + 1 + 1, 2, none⟩ = false := blk_frozen B63.out 2
      have f3 : W3.frozen? ⟨W.heap.size + 1 + 1, 3, none⟩ = false := blk_frozen B63.out 3
      have z0 : W3.cell? ⟨W.heap.size + 1 + 1, 0, none⟩ = some (.int .i64 0) := by rw [blk_cell B63.out]; rfl
      have z1 : W3.cell? ⟨W.heap.size + 1 + 1, 1, none⟩ = some (.slice none 0 0) := by rw [blk_cell B63.out]; rfl
      have z2 : W3.cell? ⟨W.heap.size + 1 + 1, 2, none⟩ = some (.int .i64 0) := by rw [blk_cell B63.out]; rfl
      have z3 : W3.cell? ⟨W.heap.size + 1 + 1, 3, none⟩ = some (.int .i64 0) := by rw [blk_cell B63.out]; rfl
      clear hR3 hb3 hk3 r0 r1 r2 r3 x1 x2 x3 x4 hq
      go_wp2_with fail
      rw [HD.out]
      have hbk := w4_blk (a0 := .int .i64 (putS ⟨o.f1, o.f2⟩ ⟨o.f4, o.f3⟩ S).cap) (a1 := .slice A1 n1 c1) (a2 := .int .i64 (putS ⟨o.f1, o.f2⟩ ⟨o.f4, o.f3⟩ S).hits) (a3 := .int .i64 (putS ⟨o.f1, o.f2⟩ ⟨o.f4, o.f3⟩ S).miss) B63.out
      refine bodyPost_ret (results_ct rfl _ _ (W.heap.size + 1 + 1) 54 #[.int .i64 (putS ⟨o.f1, o.f2⟩ ⟨o.f4, o.f3⟩ S).cap, .slice A1 n1 c1, .int .i64 (putS ⟨o.f1, o.f2⟩ ⟨o.f4, o.f3⟩ S).hits, .int .i64 (putS ⟨o.f1, o.f2⟩ ⟨o.f4, o.f3⟩ S).miss] (0, 0) _ rfl (hbk) Try.underlying54 rfl (by kernel_rfl)) rfl ?_
      refine ⟨_, rfl, step_fin hs0 HS.out HB1.out HPD.out HPL.out HFL.out HB3.out HP2.out HK3.out HR3.out (w4_kept W3 _ _ _ _ _) (w4_below W3 _ _ (by omega) _ _ _ _)⟩
    · have d1 : (o.f0 == 1) = false := beq_eq_false_iff_ne.2 c1
      by_cases c2 : o.f0 = 2
      · have d2 : (o.f0 == 2) = true := by rw [c2]; rfl
        have HD := Aside0.mk (show doS o S = forgot (older ⟨o.f1, o.f2⟩ o.f3) S by unfold doS; rw [if_neg c0, if_neg c1, if_pos c2]; rfl)
        clear c0 c1 c2
        go_enter Try.func22, Try.ntmps22
        go_wp2_with (rw [← hW1])
        refine (inv_calls W1 W0.heap.size g F S ⟨o.f1, o.f2⟩ o.f3 HP1.out).mono ?_
        rintro e W2 ⟨rfl, hp2⟩
        have HP2 := Aside0.mk hp2
        have hk2 := hp2.choose_spec.2.2.1
        have hb2 := hp2.choose_spec.2.2.2
        have B42 := Aside0.mk (K2.out B4.out (Nat.le_refl _) hk2)
        have B52 := Aside0.mk (K2.out B5.out (by omega) hk2)
        have B62 := Aside0.mk (K2.out B6.out (by omega) hk2)
        have hs2 : W.heap.size + 3 ≤ W2.heap.size := by have := hk2.1; omega
        have HB2 := Aside0.mk ((HBB.out.trans (HB1.out.mono hs0)).trans hb2)
        have HR2 := Aside0.mk (Kd.R_move HR1.out (fun k z => hk2.2 k (by have := (HPL.out k z).1; omega) (HPL.out k z).2))
        have r0 : W2.cell? ⟨W.heap.size, 0, none⟩ = some (.int .i64 S.cap) := by rw [blk_cell B42.out]; rfl
        have r1 : W2.cell? ⟨W.heap.size, 1, none⟩ = some (.slice A n c) := by rw [blk_cell B42.out]; rfl
        have r2 : W2.cell? ⟨W.heap.size, 2, none⟩ = some (.int .i64 S.hits) := by rw [blk_cell B42.out]; rfl
        have r3 : W2.cell? ⟨W.heap.size, 3, none⟩ = some (.int .i64 S.miss) := by rw [blk_cell B42.out]; rfl
        have x1 : W2.cell? ⟨W.heap.size + 1, 1, none⟩ = some (.int .i64 o.f1) := by rw [blk_cell B52.out]; rfl
        have x2 : W2.cell? ⟨W.heap.size + 1, 2, none⟩ = some (.int .i64 o.f2) := by rw [blk_cell B52.out]; rfl
        have x3 : W2.cell? ⟨W.heap.size + 1, 3, none⟩ = some (.int .i64 o.f3) := by rw [blk_cell B52.out]; rfl
        have x4 : W2.cell? ⟨W.heap.size + 1, 4, none⟩ = some (.string o.f4) := by rw [blk_cell B52.out]; rfl
        clear hp2 hk2 hb2
        go_wp2_with fail
        obtain ⟨kq, hq⟩ := inv_is ⟨o.f1, o.f2⟩ o.f3 S hsm HF.out.nd
        refine (dasdref25_Invalidate.calls kq S.cap P (.slice A n c) (pgs S.ents) S.hits S.miss o.f1 o.f2 o.f3 _ _ _ _ _ W0 W2 HB2.out HR2.out hq).mono ?_
        rintro e W3 ⟨v1, rfl, hR3, hb3, hk3⟩
        have HR3 := Aside0.mk hR3
        have HK3 := Aside0.mk hk3
        have HB3 := Aside0.mk hb3
        obtain ⟨A1, n1, c1, hv1⟩ : ∃ A1 n1 c1, v1 = .slice A1 n1 c1 := by obtain ⟨A, c, h⟩ := Kd.R_slice hR3; exact ⟨A, _, c, h⟩
        subst hv1
        have hs3 : W.heap.size + 3 ≤ W3.heap.size := by have := hk3.1; omega
        have hlt6 : W.heap.size + 1 + 1 < W3.heap.size := by omega
        have B63 := Aside0.mk (K3.out B62.out (by omega) hk3)
        have f0 : W3.frozen? ⟨W.heap.size + 1 + 1, 0, none⟩ = false := blk_frozen B63.out 0
        have f1 : W3.frozen? ⟨W.heap.size + 1 + 1, 1, none⟩ = false := blk_frozen B63.out 1
        have f2 : W3.frozen? ⟨W.heap.size + 1 + 1, 2, none⟩ = false := blk_frozen B63.out 2
        have f3 : W3.frozen? ⟨W.heap.size + 1 + 1, 3, none⟩ = false := blk_frozen B63.out 3
        have z0 : W3.cell? ⟨W.heap.size + 1 + 1, 0, none⟩ = some (.int .i64 0) := by rw [blk_cell B63.out]; rfl
        have z1 : W3.cell? ⟨W.heap.size + 1 + 1, 1, none⟩ = some (.slice none 0 0) := by rw [blk_cell B63.out]; rfl
        have z2 : W3.cell? ⟨W.heap.size + 1 + 1, 2, none⟩ = some (.int .i64 0) := by rw [blk_cell B63.out]; rfl
        have z3 : W3.cell? ⟨W.heap.size + 1 + 1, 3, none⟩ = some (.int .i64 0) := by rw [blk_cell B63.out]; rfl
        clear hR3 hb3 hk3 r0 r1 r2 r3 x1 x2 x3 x4 hq
        go_wp2_with fail
        rw [HD.out]
        have hbk := w4_blk (a0 := .int .i64 (forgot (older ⟨o.f1, o.f2⟩ o.f3) S).cap) (a1 := .slice A1 n1 c1) (a2 := .int .i64 (forgot (older ⟨o.f1, o.f2⟩ o.f3) S).hits) (a3 := .int .i64 (forgot (older ⟨o.f1, o.f2⟩ o.f3) S).miss) B63.out
        refine bodyPost_ret (results_ct rfl _ _ (W.heap.size + 1 + 1) 54 #[.int .i64 (forgot (older ⟨o.f1, o.f2⟩ o.f3) S).cap, .slice A1 n1 c1, .int .i64 (forgot (older ⟨o.f1, o.f2⟩ o.f3) S).hits, .int .i64 (forgot (older ⟨o.f1, o.f2⟩ o.f3) S).miss] (0, 0) _ rfl (blk_alloc hbk _) Try.underlying54 rfl (by kernel_rfl)) rfl ?_
        refine ⟨_, rfl, step_fin hs0 HS.out HB1.out HPD.out HPL.out HFL.out HB3.out HP2.out HK3.out HR3.out ((w4_kept W3 _ _ _ _ _).alloc _) ((w4_below W3 _ _ (by omega) _ _ _ _).trans ((below_alloc (Below.refl _ _) _).mono (by have e := w4_size W3 (W.heap.size + 1 + 1); simp only [w4] at e; simp only [w4, e]; omega)))⟩
      · have d2 : (o.f0 == 2) = false := beq_eq_false_iff_ne.2 c2
        by_cases c3 : o.f0 = 3
        · have d3 : (o.f0 == 3) = true := by rw [c3]; rfl
          have HD := Aside0.mk (show doS o S = forgot (hasId o.f1) S by unfold doS; rw [if_neg c0, if_neg c1, if_neg c2, if_pos c3])
          clear c0 c1 c2 c3
          go_enter Try.func22, Try.ntmps22
          go_wp2_with (rw [← hW1])
          refine (drop_calls W1 W0.heap.size g F S o.f1 HP1.out).mono ?_
          rintro e W2 ⟨rfl, hp2⟩
          have HP2 := Aside0.mk hp2
          have hk2 := hp2.choose_spec.2.2.1
          have hb2 := hp2.choose_spec.2.2.2
          have B42 := Aside0.mk (K2.out B4.out (Nat.le_refl _) hk2)
          have B52 := Aside0.mk (K2.out B5.out (by omega) hk2)
          have B62 := Aside0.mk (K2.out B6.out (by omega) hk2)
          have hs2 : W.heap.size + 3 ≤ W2.heap.size := by have := hk2.1; omega
          have HB2 := Aside0.mk ((HBB.out.trans (HB1.out.mono hs0)).trans hb2)
          have HR2 := Aside0.mk (Kd.R_move HR1.out (fun k z => hk2.2 k (by have := (HPL.out k z).1; omega) (HPL.out k z).2))
          have r0 : W2.cell? ⟨W.heap.size, 0, none⟩ = some (.int .i64 S.cap) := by rw [blk_cell B42.out]; rfl
          have r1 : W2.cell? ⟨W.heap.size, 1, none⟩ = some (.slice A n c) := by rw [blk_cell B42.out]; rfl
          have r2 : W2.cell? ⟨W.heap.size, 2, none⟩ = some (.int .i64 S.hits) := by rw [blk_cell B42.out]; rfl
          have r3 : W2.cell? ⟨W.heap.size, 3, none⟩ = some (.int .i64 S.miss) := by rw [blk_cell B42.out]; rfl
          have x1 : W2.cell? ⟨W.heap.size + 1, 1, none⟩ = some (.int .i64 o.f1) := by rw [blk_cell B52.out]; rfl
          have x2 : W2.cell? ⟨W.heap.size + 1, 2, none⟩ = some (.int .i64 o.f2) := by rw [blk_cell B52.out]; rfl
          have x3 : W2.cell? ⟨W.heap.size + 1, 3, none⟩ = some (.int .i64 o.f3) := by rw [blk_cell B52.out]; rfl
          have x4 : W2.cell? ⟨W.heap.size + 1, 4, none⟩ = some (.string o.f4) := by rw [blk_cell B52.out]; rfl
          clear hp2 hk2 hb2
          go_wp2_with fail
          obtain ⟨kq, hq⟩ := drop_is o.f1 S hsm
          have hOW := Kd.R_reads' HR2.out
          have hle3 : (pgs S.ents).length ≤ c := by have h1 := hOW.1; have h2 := hOW.2.1; omega
          have hC2 := hOW.2.2
          rw [hOW.1]
          refine (dasdref25_Drop.calls kq S.cap A c (pgs S.ents) S.hits S.miss o.f1 _ _ _ _ _ W2 hC2 hle3 hq).mono ?_
          rintro e W3 ⟨v1, rfl, hR3', hb3'⟩
          have hb3 := HB2.out.trans (hb3'.mono (show W0.heap.size ≤ W2.heap.size by omega))
          have hk3 := Kept.of_below hb3' P
          have hR3 : Kd.R k70 70 W3 W0.heap.size (fun k => P k ∨ W2.heap.size ≤ k) v1 _ := Kd.R_mono (Kd.R_lower (Kd.R_mono (Kd.R_bound hR3') (fun k hk => (hk.2.1 : W2.heap.size ≤ k))) (show W0.heap.size ≤ W2.heap.size by omega)) (fun k hk => Or.inr hk)
          have HR3 := Aside0.mk hR3
          have HK3 := Aside0.mk hk3
          have HB3 := Aside0.mk hb3
          obtain ⟨A1, n1, c1, hv1⟩ : ∃ A1 n1 c1, v1 = .slice A1 n1 c1 := by obtain ⟨A, c, h⟩ := Kd.R_slice hR3; exact ⟨A, _, c, h⟩
          subst hv1
          have hs3 : W.heap.size + 3 ≤ W3.heap.size := by have := hk3.1; omega
          have hlt6 : W.heap.size + 1 + 1 < W3.heap.size := by omega
          have B63 := Aside0.mk (K3.out B62.out (by omega) hk3)
          have f0 : W3.frozen? ⟨W.heap.size + 1 + 1, 0, none⟩ = false := blk_frozen B63.out 0
          have f1 : W3.frozen? ⟨W.heap.size + 1 + 1, 1, none⟩ = false := blk_frozen B63.out 1
          have f2 : W3.frozen? ⟨W.heap.size + 1 + 1, 2, none⟩ = false := blk_frozen B63.out 2
          have f3 : W3.frozen? ⟨W.heap.size + 1 + 1, 3, none⟩ = false := blk_frozen B63.out 3
          have z0 : W3.cell? ⟨W.heap.size + 1 + 1, 0, none⟩ = some (.int .i64 0) := by rw [blk_cell B63.out]; rfl
          have z1 : W3.cell? ⟨W.heap.size + 1 + 1, 1, none⟩ = some (.slice none 0 0) := by rw [blk_cell B63.out]; rfl
          have z2 : W3.cell? ⟨W.heap.size + 1 + 1, 2, none⟩ = some (.int .i64 0) := by rw [blk_cell B63.out]; rfl
          have z3 : W3.cell? ⟨W.heap.size + 1 + 1, 3, none⟩ = some (.int .i64 0) := by rw [blk_cell B63.out]; rfl
          clear hR3 hb3 hk3 r0 r1 r2 r3 x1 x2 x3 x4 hq
          go_wp2_with fail
          rw [HD.out]
          have hbk := w4_blk (a0 := .int .i64 (forgot (hasId o.f1) S).cap) (a1 := .slice A1 n1 c1) (a2 := .int .i64 (forgot (hasId o.f1) S).hits) (a3 := .int .i64 (forgot (hasId o.f1) S).miss) B63.out
          refine bodyPost_ret (results_ct rfl _ _ (W.heap.size + 1 + 1) 54 #[.int .i64 (forgot (hasId o.f1) S).cap, .slice A1 n1 c1, .int .i64 (forgot (hasId o.f1) S).hits, .int .i64 (forgot (hasId o.f1) S).miss] (0, 0) _ rfl (blk_alloc hbk _) Try.underlying54 rfl (by kernel_rfl)) rfl ?_
          refine ⟨_, rfl, step_fin hs0 HS.out HB1.out HPD.out HPL.out HFL.out HB3.out HP2.out HK3.out HR3.out ((w4_kept W3 _ _ _ _ _).alloc _) ((w4_below W3 _ _ (by omega) _ _ _ _).trans ((below_alloc (Below.refl _ _) _).mono (by have e := w4_size W3 (W.heap.size + 1 + 1); simp only [w4] at e; simp only [w4, e]; omega)))⟩
        · have d3 : (o.f0 == 3) = false := beq_eq_false_iff_ne.2 c3
          have HD := Aside0.mk (show doS o S = S by unfold doS; rw [if_neg c0, if_neg c1, if_neg c2, if_neg c3])
          clear c0 c1 c2 c3
          go_enter Try.func22, Try.ntmps22
          go_wp2_with fail
          rw [HD.out]
          have hbk := blk_new ((W.alloc (.cells #[.int .i64 S.cap, .slice A n c, .int .i64 S.hits, .int .i64 S.miss] 54)).alloc (.cells #[.int .i64 o.f0, .int .i64 o.f1, .int .i64 o.f2, .int .i64 o.f3, .string o.f4] 38)) (.cells #[.int .i64 S.cap, .slice A n c, .int .i64 S.hits, .int .i64 S.miss] 54)
          rw [size_alloc1, size_alloc1] at hbk
          have hbn := below_alloc (below_two W (.cells #[.int .i64 S.cap, .slice A n c, .int .i64 S.hits, .int .i64 S.miss] 54) (.cells #[.int .i64 o.f0, .int .i64 o.f1, .int .i64 o.f2, .int .i64 o.f3, .string o.f4] 38)) (.cells #[.int .i64 S.cap, .slice A n c, .int .i64 S.hits, .int .i64 S.miss] 54)
          refine bodyPost_ret (results_ct rfl _ _ (W.heap.size + 1 + 1) 54 #[.int .i64 S.cap, .slice A n c, .int .i64 S.hits, .int .i64 S.miss] (0, 0) _ rfl hbk Try.underlying54 rfl (by kernel_rfl)) rfl ?_
          exact ⟨_, rfl, F, HP0.out.below hbn, Kd.R_below HR0.out hbn, HBB.out.trans (hbn.mono hs0), Kept.of_below hbn _, fun k z => Or.inl z⟩
end Go.Proofs.Ytlfmlmnpbcidnaa.PG

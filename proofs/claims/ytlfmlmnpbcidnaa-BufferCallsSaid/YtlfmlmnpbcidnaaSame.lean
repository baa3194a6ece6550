/- The walk of same. -/
import Derived.Test.YtlfmlmnpbcidnaaRef
import Derived.BigQuiet
import Derived.Test.YtlfmlmnpbcidnaaPGx4
import Derived.Test.YtlfmlmnpbcidnaaPGx5
namespace Go.Proofs.Ytlfmlmnpbcidnaa.PG
open Go.RowKit Go.Proofs.YtlfmlmnpbcidnaaW.PrintWords Go.Proofs.YtlfmlmnpbcidnaaW.PrintLast Go.Proofs.YtlfmlmnpbcidnaaW.PrintMore
set_option linter.unusedVariables false
set_option linter.unusedSimpArgs false
attribute [local go_sem high] eqA40
set_option maxRecDepth 100000 in
theorem len_same (W : World) (B g : Nat) (F : Nat → Prop) (S : PoolS) (hP : PoolIs W B g F S) :
    Calls Try.prog 12 #[.pointer (some ⟨g, 0, none⟩)] W fun e W' => e = .returned (.int .i64 (S.ents.length : Int)) ∧ W' = W := by
  obtain ⟨bm, v, m, hP⟩ := hP
  obtain ⟨A, c, hv, _, _⟩ := Kd.R_reads (hP.R F (fun _ h => h))
  subst hv
  have cg : W.cell? ⟨g, 2, none⟩ = some (.slice A (keys S.ents).length c) := by rw [blk_cell hP.hg]; rfl
  rw [keys_length] at cg
  clear hP
  go_enter Try.func12, Try.ntmps12
  go_wp2_with fail
  go_ret
  exact ⟨rfl, rfl⟩
set_option maxHeartbeats 4000000 in
set_option maxRecDepth 100000 in
theorem same_calls (W : World) (B g : Nat) (F : Nat → Prop) (S : PoolS) (x : Int) (A : Option Addr) (c : Nat) (hP : PoolIs W B g F S) (hl : S.ents.length ≤ 8) (hC : Kd.C k70 W A S.ents.length (pgs S.ents)) :
    Calls Try.prog 21 #[.pointer (some ⟨g, 0, none⟩), .agg #[.int .i64 x, .slice A S.ents.length c, .int .i64 S.hits, .int .i64 S.miss]] W fun e W' => e = .returned (.bool true) ∧ Below W.heap.size W W' := by
  have hb1 := below_alloc (Below.refl W.heap.size W) (.cells #[.int .i64 x, .slice A S.ents.length c, .int .i64 S.hits, .int .i64 S.miss] 54)
  have HB1 := Aside0.mk hb1
  have HP1 := Aside0.mk (hP.below hb1)
  have HX1 := Aside0.mk (blk_new W (.cells #[.int .i64 x, .slice A S.ents.length c, .int .i64 S.hits, .int .i64 S.miss] 54))
  have HC1 := Aside0.mk (Kd.C_below hC hb1)
  have hs1 := size_alloc1 W (.cells #[.int .i64 x, .slice A S.ents.length c, .int .i64 S.hits, .int .i64 S.miss] 54)
  clear hb1 hP hC
  go_enter Try.func21, Try.ntmps21
  go_wp2_with fail
  refine (places_calls _ _ _ _ _ HP1.out).mono ?_
  rintro e W2 ⟨v2, rfl, hR2, hb2⟩
  obtain ⟨xs, hxs⟩ : ∃ xs, xs = keys S.ents := ⟨_, rfl⟩
  have hxl : xs.length = S.ents.length := by rw [hxs, keys_length]
  rw [← hxs] at hR2
  obtain ⟨A2, c2, hv2, _, hC2⟩ := Kd.R_reads hR2
  subst hv2
  rw [hxl] at hC2
  rw [hxl]
  have HXS := Aside0.mk hxs
  have HC2 := Aside0.mk hC2
  have HD2 := Aside0.mk (Kd.C_below HC1.out hb2)
  have HP2 := Aside0.mk (HP1.out.below hb2)
  have HX2 := Aside0.mk (blk_below HX1.out hb2)
  have HB2 := Aside0.mk (HB1.out.trans (hb2.mono (by omega)))
  have hs2 : W.heap.size < W2.heap.size := by have := hb2.size; omega
  clear hR2 hb2 hC2 hxs HP1 HX1 HC1 HB1
  go_wp2_with fail
  refine (hits_calls _ _ _ _ _ HP2.out).mono ?_
  rintro e W3 ⟨rfl, hb3⟩
  have HC3 := Aside0.mk (Kd.C_below HC2.out hb3)
  have HD3 := Aside0.mk (Kd.C_below HD2.out hb3)
  have HP3 := Aside0.mk (HP2.out.below hb3)
  have hx3 := blk_below HX2.out hb3
  have HB3 := Aside0.mk (HB2.out.trans (hb3.mono (by omega)))
  have hs3 : W.heap.size < W3.heap.size := by have := hb3.size; omega
  have x1 : W3.cell? ⟨W.heap.size, 1, none⟩ = some (.slice A S.ents.length c) := by rw [blk_cell hx3]; rfl
  have x2 : W3.cell? ⟨W.heap.size, 2, none⟩ = some (.int .i64 S.hits) := by rw [blk_cell hx3]; rfl
  have x3 : W3.cell? ⟨W.heap.size, 3, none⟩ = some (.int .i64 S.miss) := by rw [blk_cell hx3]; rfl
  have HX3 := Aside0.mk hx3
  clear hb3 hx3 HP2 HX2 HC2 HD2 HB2
  go_wp2_with fail
  go_quiet (exact Calls.quiet_of_same (len_same _ _ _ _ _ (HP3.out.below (below_drewN (Below.refl _ _) _))))
  go_wp2_with fail
  clear x1 x2 x3
  go_loopg [44] S.ents.length (fun gg s44 w' => ∃ (j : Nat), s44 = .int .i64 j ∧ j ≤ S.ents.length ∧ S.ents.length - j ≤ gg ∧ Aside0 (Below W3.heap.size W3 w'))
  case atStart => exact ⟨0, by go_num, Nat.zero_le _, by omega, ⟨below_drewN (Below.refl _ _) _⟩⟩
  case round =>
    obtain ⟨j, rfl, hj, hgj, HBw⟩ := hrel
    by_cases hjl : j < S.ents.length
    · have hjz : (j : Int) < (S.ents.length : Int) := by omega
      obtain ⟨ad, e, q0, q1⟩ := at_T40 (Kd.C_below HC3.out HBw.out) (j : Int) (by omega) hjz
      obtain ⟨ad', e', r0, r1, _, _⟩ := at_T70 (Kd.C_below HD3.out HBw.out) (j : Int) (by omega) hjz
      have hx := blk_below HX3.out HBw.out
      have x1 : wr.cell? ⟨W.heap.size, 1, none⟩ = some (.slice A S.ents.length c) := by rw [blk_cell hx]; rfl
      rw [rdT40_at xs j (by omega)] at q0 q1
      rw [rd_pgs _ j hjl] at r0 r1
      have hxe : xs[j]'(by omega) = S.ents[j].1 := by
        have := HXS.out
        subst this
        exact List.getElem_map ..
      rw [hxe] at q0 q1
      have r0 : wr.cell? _ = some (Value.int .i64 S.ents[j].1.f0) := r0
      have r1 : wr.cell? _ = some (Value.int .i64 S.ents[j].1.f1) := r1
      cases e
      cases e'
      rw [Int.toNat_natCast] at q0 q1 r0 r1
      clear hx
      go_wp2_with fail
      go_quiet (fail)
      go_wp2_with fail
      go_roundg (S.ents.length - (j + 1))
      case measure => omega
      case rel => exact ⟨j + 1, by go_num, by omega, Nat.le_refl _, ⟨below_drewN HBw.out _⟩⟩
    · obtain rfl : j = S.ents.length := by omega
      go_wp2_with fail
      go_ret
      exact ⟨rfl, HB3.out.trans (HBw.out.mono (by omega))⟩
end Go.Proofs.Ytlfmlmnpbcidnaa.PG

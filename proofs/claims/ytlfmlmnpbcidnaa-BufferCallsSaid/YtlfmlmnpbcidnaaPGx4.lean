/- Functions of the program as plain Lean functions and the proofs that the Go code computes them, or a row out of them: written by a program of this session (a turned copy of the kit's print; some functions are given by hand). -/
import Derived.Test.YtlfmlmnpbcidnaaPGx0
import Derived.Test.YtlfmlmnpbcidnaaPGx2
import Derived.Test.YtlfmlmnpbcidnaaPGx3
namespace Go.Proofs.Ytlfmlmnpbcidnaa.PG
open Go.RowKit Go.Proofs.YtlfmlmnpbcidnaaW.PrintWords Go.Proofs.YtlfmlmnpbcidnaaW.PrintLast Go.Proofs.YtlfmlmnpbcidnaaW.PrintMore
attribute [local go_sem] max2_int min2_int max_two min_two max_three min_three max_four min_four   -- for this text's walks alone
set_option linter.unusedVariables false
set_option linter.unusedSimpArgs false

/-! ### dasdref25_Get: function 29 -/
def dasdref25_Get.f (k : Nat) (a0_0 : Int) (l0_1 : List (S70)) (a0_2 : Int) (a0_3 : Int) (a1 : Int) (a2 : Int) : Option (Int × (List (S70)) × Int × Int × ByteArray × Int × Bool) := (dasdref25_find.f k a0_0 l0_1 a0_2 a0_3 a1 a2).bind fun t125 => (if t125 < 0 then (some (a0_0, l0_1, a0_2, wrap64 (a0_3 + 1), (⟨#[]⟩ : ByteArray), 0, false)) else (if 0 ≤ t125 then (if t125 < (l0_1.length : Int) then ((dasdref25_remove.f a0_0 l0_1 a0_2 a0_3 t125).bind fun bt128 => ((some (([] : List (S70)) : List (S70))).bind fun y134 => (if y134.length + bt128.2.1.length < 3518437208883 then ((some (y134 ++ bt128.2.1 : List (S70))).bind fun y137 => ((some (([(⟨(⟨(rd_T70 l0_1 t125).f0.f0, (rd_T70 l0_1 t125).f0.f1⟩ : S40), (rd_T70 l0_1 t125).f1, (rd_T70 l0_1 t125).f2⟩ : S70)] : List (S70)) : List (S70))).bind fun y140 => (if y137.length + y140.length < 3518437208883 then (some (bt128.1, (y137 ++ y140), wrap64 (bt128.2.2.1 + 1), bt128.2.2.2, (rd_T70 l0_1 t125).f1, (rd_T70 l0_1 t125).f2, true)) else (none)))) else (none)))) else (none)) else (none)))
theorem dasdref25_Get.mono : ∀ a0 a1 a2 a3 a4 a5 k, LeO (dasdref25_Get.f k a0 a1 a2 a3 a4 a5) (dasdref25_Get.f (k + 1) a0 a1 a2 a3 a4 a5) := by
  intro a0 a1 a2 a3 a4 a5 k
  unfold dasdref25_Get.f
  repeat' first
      | (with_reducible exact dasdref25_find.mono _ _ _ _ _ _ _)
      | (with_reducible exact LeO.refl _)
      | (with_reducible exact LeO.none _)
      | (with_reducible refine LeO.ite ?_ ?_)
      | (with_reducible refine LeO.bind ?_ (fun _ => ?_))
      | exact dasdref25_find.mono _ _ _ _ _ _ _
      | exact LeO.none _
      | refine LeO.ite ?_ ?_
      | refine LeO.bind ?_ (fun _ => ?_)
def dasdref25_Get.T7 : Bool × List (List Nat × List Nat) := (true, [([], []), ([], []), ([1], [1]), ([0, 2], [0, 2]), ([], []), ([4], [4]), ([3, 5, 3], [3, 5]), ([], []), ([7], [7]), ([8], [8]), ([0, 1, 2, 3, 4, 5, 6, 7, 8], []), ([10, 6, 6, 0, 1, 2, 3, 4, 5, 6, 7, 8], [6, 10]), ([0, 1, 2, 3, 4, 5, 6, 7, 8, 9, 10, 11], []), ([12, 9, 11, 0, 1, 2, 3, 4, 5, 6, 7, 8, 9, 10, 11], [9, 12])])
def dasdref25_Get.B7 : List Nat := [0, 0, 2, 7, 0, 16, 63, 0, 128, 384, 511, 1535, 4095, 8191]
theorem dasdref25_Get.tab7 : rtab .any (opsOf Try.f29 7) = dasdref25_Get.T7 := by kernel_rfl
theorem dasdref25_Get.bits7 : waitsOk dasdref25_Get.T7.2 dasdref25_Get.B7 = true := by kernel_rfl
def dasdref25_Get.T8 : Bool × List (List Nat × List Nat) := (true, [([], []), ([], []), ([1], [1]), ([], []), ([3], [3]), ([0, 0], [0]), ([2, 5, 0, 1, 2, 5], [2]), ([4, 6, 0, 1, 2, 3, 4, 5, 6], [4]), ([7, 0, 1, 2, 3, 4, 5, 6, 7], [])])
def dasdref25_Get.B8 : List Nat := [0, 0, 2, 0, 8, 1, 39, 127, 255]
theorem dasdref25_Get.tab8 : rtab .any (opsOf Try.f29 8) = dasdref25_Get.T8 := by kernel_rfl
theorem dasdref25_Get.bits8 : waitsOk dasdref25_Get.T8.2 dasdref25_Get.B8 = true := by kernel_rfl
set_option maxHeartbeats 8000000 in
set_option maxRecDepth 100000 in
theorem dasdref25_Get.calls (k : Nat) (a0_0 : Int) (P0_1_ : Nat → Prop) (u9000_ : Value) (l0_1 : List (S70)) (a0_2 : Int) (a0_3 : Int) (a1 : Int) (a2 : Int) (r1 : Int) (r2 : List (S70)) (r3 : Int) (r4 : Int) (r5 : ByteArray) (r6 : Int) (r7 : Bool) (w0 w : World) (hB : Below w0.heap.size w0 w) (ho0_1 : Kd.R k70 70 w w0.heap.size P0_1_ u9000_ l0_1) (h : dasdref25_Get.f k a0_0 l0_1 a0_2 a0_3 a1 a2 = some (r1, r2, r3, r4, r5, r6, r7)) :
    Calls Try.prog 29 #[.agg #[.int .i64 a0_0, u9000_, .int .i64 a0_2, .int .i64 a0_3], .int .i64 a1, .int .i64 a2] w fun e w' => ∃ v1_ : Value, e = .returned (.tuple #[.agg #[.int .i64 r1, v1_, .int .i64 r3, .int .i64 r4], .string r5, .int .i64 r6, .bool r7]) ∧ Kd.R k70 70 w' w0.heap.size (fun k_ => (P0_1_ k_ ∨ w.heap.size ≤ k_)) v1_ r2 ∧ Below w0.heap.size w0 w' ∧ Kept w w' (fun k_ => P0_1_ k_) := by
  have hu54 := Try.underlying54
  have hu70 := Try.underlying70
  have HO0_1 := Aside0.mk (show Kd.R k70 70 w w0.heap.size (fun k_ => (P0_1_ k_ ∨ w.heap.size ≤ k_)) u9000_ l0_1 from Kd.R_mono ho0_1 (fun k_ hk => (.inl hk)))
  have HK := Aside0.mk (Kept.refl w (fun k_ => P0_1_ k_))
  have HW0 := Aside0.mk hB.size
  have HB := Aside0.mk hB
  clear hB
  have H : ((dasdref25_find.f k a0_0 l0_1 a0_2 a0_3 a1 a2).bind fun t125 => (if t125 < 0 then (some (a0_0, l0_1, a0_2, wrap64 (a0_3 + 1), (⟨#[]⟩ : ByteArray), 0, false)) else (if 0 ≤ t125 then (if t125 < (l0_1.length : Int) then ((dasdref25_remove.f a0_0 l0_1 a0_2 a0_3 t125).bind fun bt128 => ((some (([] : List (S70)) : List (S70))).bind fun y134 => (if y134.length + bt128.2.1.length < 3518437208883 then ((some (y134 ++ bt128.2.1 : List (S70))).bind fun y137 => ((some (([(⟨(⟨(rd_T70 l0_1 t125).f0.f0, (rd_T70 l0_1 t125).f0.f1⟩ : S40), (rd_T70 l0_1 t125).f1, (rd_T70 l0_1 t125).f2⟩ : S70)] : List (S70)) : List (S70))).bind fun y140 => (if y137.length + y140.length < 3518437208883 then (some (bt128.1, (y137 ++ y140), wrap64 (bt128.2.2.1 + 1), bt128.2.2.2, (rd_T70 l0_1 t125).f1, (rd_T70 l0_1 t125).f2, true)) else (none)))) else (none)))) else (none)) else (none)))) = some (r1, r2, r3, r4, r5, r6, r7) := h
  clear h
  replace H := Option.bind_eq_some_iff.mp H
  obtain ⟨t125, A40, H⟩ := H
  replace H : (if t125 < 0 then (some (a0_0, l0_1, a0_2, wrap64 (a0_3 + 1), (⟨#[]⟩ : ByteArray), 0, false)) else (if 0 ≤ t125 then (if t125 < (l0_1.length : Int) then ((dasdref25_remove.f a0_0 l0_1 a0_2 a0_3 t125).bind fun bt128 => ((some (([] : List (S70)) : List (S70))).bind fun y134 => (if y134.length + bt128.2.1.length < 3518437208883 then ((some (y134 ++ bt128.2.1 : List (S70))).bind fun y137 => ((some (([(⟨(⟨(rd_T70 l0_1 t125).f0.f0, (rd_T70 l0_1 t125).f0.f1⟩ : S40), (rd_T70 l0_1 t125).f1, (rd_T70 l0_1 t125).f2⟩ : S70)] : List (S70)) : List (S70))).bind fun y140 => (if y137.length + y140.length < 3518437208883 then (some (bt128.1, (y137 ++ y140), wrap64 (bt128.2.2.1 + 1), bt128.2.2.2, (rd_T70 l0_1 t125).f1, (rd_T70 l0_1 t125).f2, true)) else (none)))) else (none)))) else (none)) else (none))) = some (r1, r2, r3, r4, r5, r6, r7) := H
  have A4 := Aside0.mk A40
  clear A40
  by_cases c5 : t125 < 0
  · rw [if_pos c5] at H
    have c5b0 : decide (t125 < 0) = true := decide_eq_true c5
    clear c5
    simp only [Option.some.injEq, Prod.mk.injEq] at H
    obtain ⟨rfl, rfl, rfl, rfl, rfl, rfl, rfl⟩ := H
    obtain ⟨Ao6, co6, eo6⟩ := Kd.R_slice HO0_1.out
    subst eo6
    go_enter Try.func29, Try.ntmps29
    go_wp2_with (first | ((with_reducible refine gate_dst (N := 3) rfl ?_); refine box_event ?hg (N := 3) ?hd (cs := #[.int .i64 a0_0, .slice Ao6 l0_1.length co6, .int .i64 a0_2, .int .i64 a0_3]) (t := 54) ?hr ?_; (case hd => rfl); (case hg => rfl); (case hr => first | (go_simp; done) | (go_simp; rfl)); intro gb123 hg w7 hbox hb; have n0_ := Aside0.mk (Kd.R_below (by (with_reducible repeat (first | apply Kd.R_alloc | apply Kd.R_drewN | apply Kd.R_drew)); exact HO0_1.out) hb); have n1_ := Aside0.mk (Kept.below (S := (fun k_ => P0_1_ k_)) (by repeat (first | (with_reducible first | exact HK.out | apply Kept.alloc | apply Kept.drewN | apply Kept.drew) | exact HK.out)) hb); have n2_ := Aside0.mk (below_step (by repeat (first | (with_reducible first | exact HB.out | apply below_alloc | apply pw_below_drewN | apply below_drew1) | exact HB.out)) hb); have n3_ := Aside0.mk (hbox); have n4_ := Aside0.mk ((by rw [hg]; exact (by first | exact HK.out.1 | exact (show Kept w _ (fun k_ => P0_1_ k_) from by repeat (first | (with_reducible first | exact HK.out | apply Kept.alloc | apply Kept.drewN | apply Kept.drew) | exact HK.out)).1) : w.heap.size ≤ gb123)); have n5_ := Aside0.mk ((by rw [hg]; exact (below_size (by repeat (first | (with_reducible first | exact HB.out | apply below_alloc | apply pw_below_drewN | apply below_drew1) | exact HB.out))) : w0.heap.size ≤ gb123)); clear HO0_1; clear HK; clear HB; have HO0_1 := n0_; have HK := n1_; have HB := n2_; have BK123 := n3_; have GW123 := n4_; have GE123 := n5_; clear n0_ n1_ n2_ n3_ n4_ n5_; clear hb hbox hg) | ((with_reducible refine gate_dst (N := 6) rfl ?_); refine box_event ?hg (N := 6) ?hd (cs := #[.int .i64 0, .slice none 0 0, .int .i64 0, .int .i64 0]) (t := 54) ?hr ?_; (case hd => rfl); (case hg => rfl); (case hr => first | (go_simp; done) | (go_simp; rfl)); intro gb124 hg w8 hbox hb; have n0_ := Aside0.mk (Kd.R_below (by (with_reducible repeat (first | apply Kd.R_alloc | apply Kd.R_drewN | apply Kd.R_drew)); exact HO0_1.out) hb); have n1_ := Aside0.mk (blk_below (g := gb123) (o := .cells #[.int .i64 a0_0, .slice Ao6 l0_1.length co6, .int .i64 a0_2, .int .i64 a0_3] 54 (0, 0)) (by (with_reducible repeat (first | refine blk_drewN ?_ _ | refine blk_drew ?_ | refine blk_alloc ?_ _)); exact BK123.out) hb); have n2_ := Aside0.mk (Kept.below (S := (fun k_ => P0_1_ k_)) (by repeat (first | (with_reducible first | exact HK.out | apply Kept.alloc | apply Kept.drewN | apply Kept.drew | refine Kept.setCell ?_ (.inr GW123.out) _) | exact HK.out)) hb); have n3_ := Aside0.mk (below_step (by repeat (first | (with_reducible first | exact HB.out | apply below_alloc | apply pw_below_drewN | apply below_drew1 | refine below_set ?_ GE123.out) | exact HB.out)) hb); have n4_ := Aside0.mk (hbox); have n5_ := Aside0.mk ((by rw [hg]; exact (by first | exact HK.out.1 | exact (show Kept w _ (fun k_ => P0_1_ k_) from by repeat (first | (with_reducible first | exact HK.out | apply Kept.alloc | apply Kept.drewN | apply Kept.drew | refine Kept.setCell ?_ (.inr GW123.out) _) | exact HK.out)).1) : w.heap.size ≤ gb124)); have n6_ := Aside0.mk ((by rw [hg]; exact (below_size (by repeat (first | (with_reducible first | exact HB.out | apply below_alloc | apply pw_below_drewN | apply below_drew1 | refine below_set ?_ GE123.out) | exact HB.out))) : w0.heap.size ≤ gb124)); have n7_ := Aside0.mk ((by rw [hg]; exact Nat.ne_of_lt (blk_lt (g := gb123) (o := .cells #[.int .i64 a0_0, .slice Ao6 l0_1.length co6, .int .i64 a0_2, .int .i64 a0_3] 54 (0, 0)) (by (with_reducible repeat (first | refine blk_drewN ?_ _ | refine blk_drew ?_ | refine blk_alloc ?_ _)); exact BK123.out)) : gb123 ≠ gb124)); have n8_ := Aside0.mk ((by rw [hg]; exact Nat.ne_of_gt (blk_lt (g := gb123) (o := .cells #[.int .i64 a0_0, .slice Ao6 l0_1.length co6, .int .i64 a0_2, .int .i64 a0_3] 54 (0, 0)) (by (with_reducible repeat (first | refine blk_drewN ?_ _ | refine blk_drew ?_ | refine blk_alloc ?_ _)); exact BK123.out)) : gb124 ≠ gb123)); clear HO0_1; clear BK123; clear HK; clear HB; have HO0_1 := n0_; have BK123 := n1_; have HK := n2_; have HB := n3_; have BK124 := n4_; have GW124 := n5_; have GE124 := n6_; have NB123_124 := n7_; have NB124_123 := n8_; clear n0_ n1_ n2_ n3_ n4_ n5_ n6_ n7_ n8_; clear hb hbox hg; have hnb9 := NB123_124.out; have hnc9 := NB124_123.out; have hcz10_0 : w8.cell? ⟨gb123, 0, none⟩ = some (.int .i64 a0_0) := (blk_cell BK123.out 0).trans rfl; have hcz10_1 : w8.cell? ⟨gb123, 1, none⟩ = some (.slice Ao6 l0_1.length co6) := (blk_cell BK123.out 1).trans rfl; have hcz10_2 : w8.cell? ⟨gb123, 2, none⟩ = some (.int .i64 a0_2) := (blk_cell BK123.out 2).trans rfl; have hcz10_3 : w8.cell? ⟨gb123, 3, none⟩ = some (.int .i64 a0_3) := (blk_cell BK123.out 3).trans rfl; have hfz10_0 := blk_frozen BK123.out 0; have hfz10_1 := blk_frozen BK123.out 1; have hfz10_2 := blk_frozen BK123.out 2; have hfz10_3 := blk_frozen BK123.out 3) | ((with_reducible refine gate_callee (f := 37) rfl ?_); refine goesL_ (some 15) rfl rfl Try.func37 (by kernel_rfl) rfl #[.agg #[.int .i64 a0_0, .slice Ao6 l0_1.length co6, .int .i64 a0_2, .int .i64 a0_3], .int .i64 a1, .int .i64 a2] rfl (by (try simp only [List.map_toArray, List.map_cons, List.map_nil]); first | done | rfl | (simp only [List.length_drop, List.length_take]; rfl)) ?_; (with_reducible refine (dasdref25_find.calls k a0_0 _ _ l0_1 a0_2 a0_3 a1 a2 t125 _ ?side1 ?side2 A4.out).mono ?_); (case side1 => repeat (first | exact (Kd.R_reads' HO0_1.out).2.2 | (with_reducible refine Kd.C_alloc ?_ _) | (with_reducible refine Kd.C_drewN ?_ _) | (with_reducible refine Kd.C_drew ?_))); (case side2 => exact (Kd.R_reads' HO0_1.out).2.1); rintro e w11 ⟨rfl, hb⟩; refine ⟨_, rfl, ?_⟩; have n0_ := Aside0.mk (Kd.R_below (by (with_reducible repeat (first | apply Kd.R_alloc | apply Kd.R_drewN | apply Kd.R_drew)); exact HO0_1.out) hb); have n1_ := Aside0.mk (blk_below (g := gb123) (o := .cells #[.int .i64 a0_0, .slice Ao6 l0_1.length co6, .int .i64 a0_2, .int .i64 a0_3] 54 (0, 0)) (by (with_reducible repeat (first | refine blk_drewN ?_ _ | refine blk_drew ?_ | refine blk_alloc ?_ _)); exact BK123.out) hb); have n2_ := Aside0.mk (blk_below (g := gb124) (o := .cells #[.int .i64 0, .slice none 0 0, .int .i64 0, .int .i64 0] 54 (0, 0)) (by (with_reducible repeat (first | refine blk_drewN ?_ _ | refine blk_drew ?_ | refine blk_alloc ?_ _)); exact BK124.out) hb); have n3_ := Aside0.mk (Kept.below (S := (fun k_ => P0_1_ k_)) (by repeat (first | (with_reducible first | exact HK.out | apply Kept.alloc | apply Kept.drewN | apply Kept.drew | refine Kept.setCell ?_ (.inr GW123.out) _ | refine Kept.setCell ?_ (.inr GW124.out) _) | exact HK.out)) hb); have n4_ := Aside0.mk (below_step (by repeat (first | (with_reducible first | exact HB.out | apply below_alloc | apply pw_below_drewN | apply below_drew1 | refine below_set ?_ GE123.out | refine below_set ?_ GE124.out) | exact HB.out)) hb); clear HO0_1; clear BK123; clear BK124; clear HK; clear HB; have HO0_1 := n0_; have BK123 := n1_; have BK124 := n2_; have HK := n3_; have HB := n4_; clear n0_ n1_ n2_ n3_ n4_; (try clear hb); (try clear hb2); (try clear hk); (try clear hi); have hcz12_0 : w11.cell? ⟨gb123, 0, none⟩ = some (.int .i64 a0_0) := (blk_cell BK123.out 0).trans rfl; have hcz12_1 : w11.cell? ⟨gb123, 1, none⟩ = some (.slice Ao6 l0_1.length co6) := (blk_cell BK123.out 1).trans rfl; have hcz12_2 : w11.cell? ⟨gb123, 2, none⟩ = some (.int .i64 a0_2) := (blk_cell BK123.out 2).trans rfl; have hcz12_3 : w11.cell? ⟨gb123, 3, none⟩ = some (.int .i64 a0_3) := (blk_cell BK123.out 3).trans rfl; have hfz12_0 := blk_frozen BK123.out 0; have hfz12_1 := blk_frozen BK123.out 1; have hfz12_2 := blk_frozen BK123.out 2; have hfz12_3 := blk_frozen BK123.out 3; have hcz13_0 : w11.cell? ⟨gb124, 0, none⟩ = some (.int .i64 0) := (blk_cell BK124.out 0).trans rfl; have hcz13_1 : w11.cell? ⟨gb124, 1, none⟩ = some (.slice none 0 0) := (blk_cell BK124.out 1).trans rfl; have hcz13_2 : w11.cell? ⟨gb124, 2, none⟩ = some (.int .i64 0) := (blk_cell BK124.out 2).trans rfl; have hcz13_3 : w11.cell? ⟨gb124, 3, none⟩ = some (.int .i64 0) := (blk_cell BK124.out 3).trans rfl; have hfz13_0 := blk_frozen BK124.out 0; have hfz13_1 := blk_frozen BK124.out 1; have hfz13_2 := blk_frozen BK124.out 2; have hfz13_3 := blk_frozen BK124.out 3))
    refine bodyPost_ret (results_list (rs := [.cell 6 54, .tmp 7, .tmp 8, .tmp 9]) rfl (by simp) (.cell gb124 54 #[.int .i64 a0_0, .slice Ao6 l0_1.length co6, .int .i64 a0_2, .int .i64 (wrap64 (a0_3 + 1))] (0, 0) _ rfl (by (with_reducible repeat (first | refine blk_drewN ?_ _ | refine blk_drew ?_ | refine blk_alloc ?_ _)); refine blk_put (cs := #[.int .i64 a0_0, .slice Ao6 l0_1.length co6, .int .i64 a0_2, .int .i64 0]) ?_ 3 _ rfl; (with_reducible repeat (first | refine blk_drewN ?_ _ | refine blk_drew ?_ | refine blk_alloc ?_ _)); refine blk_put (cs := #[.int .i64 a0_0, .slice Ao6 l0_1.length co6, .int .i64 0, .int .i64 0]) ?_ 2 _ rfl; (with_reducible repeat (first | refine blk_drewN ?_ _ | refine blk_drew ?_ | refine blk_alloc ?_ _)); refine blk_put (cs := #[.int .i64 a0_0, .slice none 0 0, .int .i64 0, .int .i64 0]) ?_ 1 _ rfl; (with_reducible repeat (first | refine blk_drewN ?_ _ | refine blk_drew ?_ | refine blk_alloc ?_ _)); refine blk_put (cs := #[.int .i64 0, .slice none 0 0, .int .i64 0, .int .i64 0]) ?_ 0 _ rfl; (with_reducible repeat (first | refine blk_drewN ?_ _ | refine blk_drew ?_ | refine blk_alloc ?_ _)); refine blk_far ?_ NB124_123.out _; (with_reducible repeat (first | refine blk_drewN ?_ _ | refine blk_drew ?_ | refine blk_alloc ?_ _)); exact BK124.out) Try.underlying54 rfl (by kernel_rfl) (.tmp (.tmp (.tmp .nil))))) rfl ?_
    exact ⟨_, by first | rfl | (simp [errW_none, errW_some] <;> rfl) | (simp [*, errW_none, errW_some] <;> rfl), by (with_reducible repeat (first | apply Kd.R_alloc | apply Kd.R_drewN | apply Kd.R_drew)); exact Kd.R_mono (Kd.R_far (p := ⟨gb124, 3, none⟩) (Kd.R_far (p := ⟨gb124, 2, none⟩) (Kd.R_far (p := ⟨gb124, 1, none⟩) (Kd.R_far (p := ⟨gb124, 0, none⟩) (Kd.R_far (p := ⟨gb123, 3, none⟩) (Kd.R_types (Kd.R_types HO0_1.out BK123.out (by decide)) BK124.out (by decide)) (fun _ hk => hk.1.2) (.int .i64 (wrap64 (a0_3 + 1)))) (fun _ hk => hk.2) (.int .i64 a0_0)) (fun _ hk => hk.2) (.slice Ao6 l0_1.length co6)) (fun _ hk => hk.2) (.int .i64 a0_2)) (fun _ hk => hk.2) (.int .i64 (wrap64 (a0_3 + 1)))) (fun _ hk => hk.1.1), by repeat (first | (with_reducible first | exact HB.out | apply below_alloc | apply pw_below_drewN | apply below_drew1 | refine below_set ?_ GE123.out | refine below_set ?_ GE124.out) | exact HB.out), by repeat (first | (with_reducible first | exact HK.out | apply Kept.alloc | apply Kept.drewN | apply Kept.drew | refine Kept.setCell ?_ (.inr GW123.out) _ | refine Kept.setCell ?_ (.inr GW124.out) _) | exact HK.out)⟩
  · rw [if_neg c5] at H
    have c5b0 : decide (t125 < 0) = false := decide_eq_false c5
    clear c5
    by_cases c14 : 0 ≤ t125
    · rw [if_pos c14] at H
      have c14b0 : decide (0 ≤ t125) = true := decide_eq_true c14
      clear c14
      by_cases c15 : t125 < (l0_1.length : Int)
      · rw [if_pos c15] at H
        have c15b0 : decide (t125 < (l0_1.length : Int)) = true := decide_eq_true c15
        clear c15
        replace H := Option.bind_eq_some_iff.mp H
        obtain ⟨⟨t128, t129, t132, t133⟩, A160, H⟩ := H
        replace H : ((some (([] : List (S70)) : List (S70))).bind fun y134 => (if y134.length + t129.length < 3518437208883 then ((some (y134 ++ t129 : List (S70))).bind fun y137 => ((some (([(⟨(⟨(rd_T70 l0_1 t125).f0.f0, (rd_T70 l0_1 t125).f0.f1⟩ : S40), (rd_T70 l0_1 t125).f1, (rd_T70 l0_1 t125).f2⟩ : S70)] : List (S70)) : List (S70))).bind fun y140 => (if y137.length + y140.length < 3518437208883 then (some (t128, (y137 ++ y140), wrap64 (t132 + 1), t133, (rd_T70 l0_1 t125).f1, (rd_T70 l0_1 t125).f2, true)) else (none)))) else (none))) = some (r1, r2, r3, r4, r5, r6, r7) := H
        have A16 := Aside0.mk A160
        clear A160
        obtain ⟨y134, hy134⟩ : ∃ y_ : List (S70), y_ = (([] : List (S70))) := ⟨_, rfl⟩
        replace H : (if y134.length + t129.length < 3518437208883 then ((some (y134 ++ t129 : List (S70))).bind fun y137 => ((some (([(⟨(⟨(rd_T70 l0_1 t125).f0.f0, (rd_T70 l0_1 t125).f0.f1⟩ : S40), (rd_T70 l0_1 t125).f1, (rd_T70 l0_1 t125).f2⟩ : S70)] : List (S70)) : List (S70))).bind fun y140 => (if y137.length + y140.length < 3518437208883 then (some (t128, (y137 ++ y140), wrap64 (t132 + 1), t133, (rd_T70 l0_1 t125).f1, (rd_T70 l0_1 t125).f2, true)) else (none)))) else (none)) = some (r1, r2, r3, r4, r5, r6, r7) := by first | (rw [hy134]; with_reducible exact H) | (have H2_ := (Option.bind_some _ _).symm.trans H; rw [hy134]; with_reducible exact H2_) | (have H2_ := (Option.bind_some _ _).symm.trans H; with_reducible exact H2_) | with_reducible exact H | (rw [hy134]; exact H) | exact H
        have Ny134 := Aside0.mk hy134
        clear hy134
        by_cases c17 : y134.length + t129.length < 3518437208883
        · rw [if_pos c17] at H
          have LMc17 := Aside0.mk c17
          clear c17
          obtain ⟨y137, hy137⟩ : ∃ y_ : List (S70), y_ = (y134 ++ t129) := ⟨_, rfl⟩
          replace H : ((some (([(⟨(⟨(rd_T70 l0_1 t125).f0.f0, (rd_T70 l0_1 t125).f0.f1⟩ : S40), (rd_T70 l0_1 t125).f1, (rd_T70 l0_1 t125).f2⟩ : S70)] : List (S70)) : List (S70))).bind fun y140 => (if y137.length + y140.length < 3518437208883 then (some (t128, (y137 ++ y140), wrap64 (t132 + 1), t133, (rd_T70 l0_1 t125).f1, (rd_T70 l0_1 t125).f2, true)) else (none))) = some (r1, r2, r3, r4, r5, r6, r7) := by first | (rw [hy137]; with_reducible exact H) | (have H2_ := (Option.bind_some _ _).symm.trans H; rw [hy137]; with_reducible exact H2_) | (have H2_ := (Option.bind_some _ _).symm.trans H; with_reducible exact H2_) | with_reducible exact H | (rw [hy137]; exact H) | exact H
          have Ny137 := Aside0.mk hy137
          clear hy137
          obtain ⟨y140, hy140⟩ : ∃ y_ : List (S70), y_ = (([(⟨(⟨(rd_T70 l0_1 t125).f0.f0, (rd_T70 l0_1 t125).f0.f1⟩ : S40), (rd_T70 l0_1 t125).f1, (rd_T70 l0_1 t125).f2⟩ : S70)] : List (S70))) := ⟨_, rfl⟩
          replace H : (if y137.length + y140.length < 3518437208883 then (some (t128, (y137 ++ y140), wrap64 (t132 + 1), t133, (rd_T70 l0_1 t125).f1, (rd_T70 l0_1 t125).f2, true)) else (none)) = some (r1, r2, r3, r4, r5, r6, r7) := by first | (rw [hy140]; with_reducible exact H) | (have H2_ := (Option.bind_some _ _).symm.trans H; rw [hy140]; with_reducible exact H2_) | (have H2_ := (Option.bind_some _ _).symm.trans H; with_reducible exact H2_) | with_reducible exact H | (rw [hy140]; exact H) | exact H
          have Ny140 := Aside0.mk hy140
          clear hy140
          by_cases c18 : y137.length + y140.length < 3518437208883
          · rw [if_pos c18] at H
            have LMc18 := Aside0.mk c18
            clear c18
            obtain ⟨y143, hy143⟩ : ∃ y_ : List (S70), y_ = (y137 ++ y140) := ⟨_, rfl⟩
            replace H : (some (t128, y143, wrap64 (t132 + 1), t133, (rd_T70 l0_1 t125).f1, (rd_T70 l0_1 t125).f2, true)) = some (r1, r2, r3, r4, r5, r6, r7) := by first | (rw [hy143]; with_reducible exact H) | (have H2_ := (Option.bind_some _ _).symm.trans H; rw [hy143]; with_reducible exact H2_) | (have H2_ := (Option.bind_some _ _).symm.trans H; with_reducible exact H2_) | with_reducible exact H | (rw [hy143]; exact H) | exact H
            have Ny143 := Aside0.mk hy143
            clear hy143
            simp only [Option.some.injEq, Prod.mk.injEq] at H
            obtain ⟨rfl, rfl, rfl, rfl, rfl, rfl, rfl⟩ := H
            obtain ⟨Ao19, co19, eo19⟩ := Kd.R_slice HO0_1.out
            subst eo19
            go_enter Try.func29, Try.ntmps29
            try go_wp2_with (first | ((with_reducible refine gate_dst (N := 3) rfl ?_); refine box_event ?hg (N := 3) ?hd (cs := #[.int .i64 a0_0, .slice Ao19 l0_1.length co19, .int .i64 a0_2, .int .i64 a0_3]) (t := 54) ?hr ?_; (case hd => rfl); (case hg => rfl); (case hr => first | (go_simp; done) | (go_simp; rfl)); intro gb123 hg w20 hbox hb; have n0_ := Aside0.mk (Kd.R_below (by (with_reducible repeat (first | apply Kd.R_alloc | apply Kd.R_drewN | apply Kd.R_drew)); exact HO0_1.out) hb); have n1_ := Aside0.mk (Kept.below (S := (fun k_ => P0_1_ k_)) (by repeat (first | (with_reducible first | exact HK.out | apply Kept.alloc | apply Kept.drewN | apply Kept.drew) | exact HK.out)) hb); have n2_ := Aside0.mk (below_step (by repeat (first | (with_reducible first | exact HB.out | apply below_alloc | apply pw_below_drewN | apply below_drew1) | exact HB.out)) hb); have n3_ := Aside0.mk (hbox); have n4_ := Aside0.mk ((by rw [hg]; exact (by first | exact HK.out.1 | exact (show Kept w _ (fun k_ => P0_1_ k_) from by repeat (first | (with_reducible first | exact HK.out | apply Kept.alloc | apply Kept.drewN | apply Kept.drew) | exact HK.out)).1) : w.heap.size ≤ gb123)); have n5_ := Aside0.mk ((by rw [hg]; exact (below_size (by repeat (first | (with_reducible first | exact HB.out | apply below_alloc | apply pw_below_drewN | apply below_drew1) | exact HB.out))) : w0.heap.size ≤ gb123)); clear HO0_1; clear HK; clear HB; have HO0_1 := n0_; have HK := n1_; have HB := n2_; have BK123 := n3_; have GW123 := n4_; have GE123 := n5_; clear n0_ n1_ n2_ n3_ n4_ n5_; clear hb hbox hg) | ((with_reducible refine gate_dst (N := 6) rfl ?_); refine box_event ?hg (N := 6) ?hd (cs := #[.int .i64 0, .slice none 0 0, .int .i64 0, .int .i64 0]) (t := 54) ?hr ?_; (case hd => rfl); (case hg => rfl); (case hr => first | (go_simp; done) | (go_simp; rfl)); intro gb124 hg w21 hbox hb; have n0_ := Aside0.mk (Kd.R_below (by (with_reducible repeat (first | apply Kd.R_alloc | apply Kd.R_drewN | apply Kd.R_drew)); exact HO0_1.out) hb); have n1_ := Aside0.mk (blk_below (g := gb123) (o := .cells #[.int .i64 a0_0, .slice Ao19 l0_1.length co19, .int .i64 a0_2, .int .i64 a0_3] 54 (0, 0)) (by (with_reducible repeat (first | refine blk_drewN ?_ _ | refine blk_drew ?_ | refine blk_alloc ?_ _)); exact BK123.out) hb); have n2_ := Aside0.mk (Kept.below (S := (fun k_ => P0_1_ k_)) (by repeat (first | (with_reducible first | exact HK.out | apply Kept.alloc | apply Kept.drewN | apply Kept.drew | refine Kept.setCell ?_ (.inr GW123.out) _) | exact HK.out)) hb); have n3_ := Aside0.mk (below_step (by repeat (first | (with_reducible first | exact HB.out | apply below_alloc | apply pw_below_drewN | apply below_drew1 | refine below_set ?_ GE123.out) | exact HB.out)) hb); have n4_ := Aside0.mk (hbox); have n5_ := Aside0.mk ((by rw [hg]; exact (by first | exact HK.out.1 | exact (show Kept w _ (fun k_ => P0_1_ k_) from by repeat (first | (with_reducible first | exact HK.out | apply Kept.alloc | apply Kept.drewN | apply Kept.drew | refine Kept.setCell ?_ (.inr GW123.out) _) | exact HK.out)).1) : w.heap.size ≤ gb124)); have n6_ := Aside0.mk ((by rw [hg]; exact (below_size (by repeat (first | (with_reducible first | exact HB.out | apply below_alloc | apply pw_below_drewN | apply below_drew1 | refine below_set ?_ GE123.out) | exact HB.out))) : w0.heap.size ≤ gb124)); have n7_ := Aside0.mk ((by rw [hg]; exact Nat.ne_of_lt (blk_lt (g := gb123) (o := .cells #[.int .i64 a0_0, .slice Ao19 l0_1.length co19, .int .i64 a0_2, .int .i64 a0_3] 54 (0, 0)) (by (with_reducible repeat (first | refine blk_drewN ?_ _ | refine blk_drew ?_ | refine blk_alloc ?_ _)); exact BK123.out)) : gb123 ≠ gb124)); have n8_ := Aside0.mk ((by rw [hg]; exact Nat.ne_of_gt (blk_lt (g := gb123) (o := .cells #[.int .i64 a0_0, .slice Ao19 l0_1.length co19, .int .i64 a0_2, .int .i64 a0_3] 54 (0, 0)) (by (with_reducible repeat (first | refine blk_drewN ?_ _ | refine blk_drew ?_ | refine blk_alloc ?_ _)); exact BK123.out)) : gb124 ≠ gb123)); clear HO0_1; clear BK123; clear HK; clear HB; have HO0_1 := n0_; have BK123 := n1_; have HK := n2_; have HB := n3_; have BK124 := n4_; have GW124 := n5_; have GE124 := n6_; have NB123_124 := n7_; have NB124_123 := n8_; clear n0_ n1_ n2_ n3_ n4_ n5_ n6_ n7_ n8_; clear hb hbox hg; have hnb22 := NB123_124.out; have hnc22 := NB124_123.out; have hcz23_0 : w21.cell? ⟨gb123, 0, none⟩ = some (.int .i64 a0_0) := (blk_cell BK123.out 0).trans rfl; have hcz23_1 : w21.cell? ⟨gb123, 1, none⟩ = some (.slice Ao19 l0_1.length co19) := (blk_cell BK123.out 1).trans rfl; have hcz23_2 : w21.cell? ⟨gb123, 2, none⟩ = some (.int .i64 a0_2) := (blk_cell BK123.out 2).trans rfl; have hcz23_3 : w21.cell? ⟨gb123, 3, none⟩ = some (.int .i64 a0_3) := (blk_cell BK123.out 3).trans rfl; have hfz23_0 := blk_frozen BK123.out 0; have hfz23_1 := blk_frozen BK123.out 1; have hfz23_2 := blk_frozen BK123.out 2; have hfz23_3 := blk_frozen BK123.out 3) | ((with_reducible refine gate_callee (f := 37) rfl ?_); refine goesL_ (some 15) rfl rfl Try.func37 (by kernel_rfl) rfl #[.agg #[.int .i64 a0_0, .slice Ao19 l0_1.length co19, .int .i64 a0_2, .int .i64 a0_3], .int .i64 a1, .int .i64 a2] rfl (by (try simp only [List.map_toArray, List.map_cons, List.map_nil]); first | done | rfl | (simp only [List.length_drop, List.length_take]; rfl)) ?_; (with_reducible refine (dasdref25_find.calls k a0_0 _ _ l0_1 a0_2 a0_3 a1 a2 t125 _ ?side1 ?side2 A4.out).mono ?_); (case side1 => repeat (first | exact (Kd.R_reads' HO0_1.out).2.2 | (with_reducible refine Kd.C_alloc ?_ _) | (with_reducible refine Kd.C_drewN ?_ _) | (with_reducible refine Kd.C_drew ?_))); (case side2 => exact (Kd.R_reads' HO0_1.out).2.1); rintro e w24 ⟨rfl, hb⟩; refine ⟨_, rfl, ?_⟩; have n0_ := Aside0.mk (Kd.R_below (by (with_reducible repeat (first | apply Kd.R_alloc | apply Kd.R_drewN | apply Kd.R_drew)); exact HO0_1.out) hb); have n1_ := Aside0.mk (blk_below (g := gb123) (o := .cells #[.int .i64 a0_0, .slice Ao19 l0_1.length co19, .int .i64 a0_2, .int .i64 a0_3] 54 (0, 0)) (by (with_reducible repeat (first | refine blk_drewN ?_ _ | refine blk_drew ?_ | refine blk_alloc ?_ _)); exact BK123.out) hb); have n2_ := Aside0.mk (blk_below (g := gb124) (o := .cells #[.int .i64 0, .slice none 0 0, .int .i64 0, .int .i64 0] 54 (0, 0)) (by (with_reducible repeat (first | refine blk_drewN ?_ _ | refine blk_drew ?_ | refine blk_alloc ?_ _)); exact BK124.out) hb); have n3_ := Aside0.mk (Kept.below (S := (fun k_ => P0_1_ k_)) (by repeat (first | (with_reducible first | exact HK.out | apply Kept.alloc | apply Kept.drewN | apply Kept.drew | refine Kept.setCell ?_ (.inr GW123.out) _ | refine Kept.setCell ?_ (.inr GW124.out) _) | exact HK.out)) hb); have n4_ := Aside0.mk (below_step (by repeat (first | (with_reducible first | exact HB.out | apply below_alloc | apply pw_below_drewN | apply below_drew1 | refine below_set ?_ GE123.out | refine below_set ?_ GE124.out) | exact HB.out)) hb); clear HO0_1; clear BK123; clear BK124; clear HK; clear HB; have HO0_1 := n0_; have BK123 := n1_; have BK124 := n2_; have HK := n3_; have HB := n4_; clear n0_ n1_ n2_ n3_ n4_; (try clear hb); (try clear hb2); (try clear hk); (try clear hi); have hcz25_0 : w24.cell? ⟨gb123, 0, none⟩ = some (.int .i64 a0_0) := (blk_cell BK123.out 0).trans rfl; have hcz25_1 : w24.cell? ⟨gb123, 1, none⟩ = some (.slice Ao19 l0_1.length co19) := (blk_cell BK123.out 1).trans rfl; have hcz25_2 : w24.cell? ⟨gb123, 2, none⟩ = some (.int .i64 a0_2) := (blk_cell BK123.out 2).trans rfl; have hcz25_3 : w24.cell? ⟨gb123, 3, none⟩ = some (.int .i64 a0_3) := (blk_cell BK123.out 3).trans rfl; have hfz25_0 := blk_frozen BK123.out 0; have hfz25_1 := blk_frozen BK123.out 1; have hfz25_2 := blk_frozen BK123.out 2; have hfz25_3 := blk_frozen BK123.out 3; have p126 : 0 ≤ (t125 : Int) := of_decide_eq_true (by first | (with_reducible assumption) | assumption); have q126 : t125 < (l0_1.length : Int) := of_decide_eq_true (by first | (with_reducible assumption) | assumption); obtain ⟨ad126, e126, hx126_0, hx126_1, hx126_2, hx126_3⟩ := at_T70 (Kd.R_reads' HO0_1.out).2.2 t125 p126 q126; cases e126; replace p126 := eq_true p126; replace q126 := eq_true q126) | ((with_reducible refine gate_dst (N := 11) rfl ?_); refine box_event ?hg (N := 11) ?hd (cs := #[.int .i64 0, .int .i64 0, .string (⟨#[]⟩ : ByteArray), .int .i64 0]) (t := 70) ?hr ?_; (case hd => rfl); (case hg => rfl); (case hr => first | (go_simp; done) | (go_simp; rfl)); intro gb127 hg w26 hbox hb; have n0_ := Aside0.mk (Kd.R_below (Kd.R_elderB (by (with_reducible repeat (first | apply Kd.R_alloc | apply Kd.R_drewN | apply Kd.R_drew)); exact HO0_1.out) gb127 (Nat.le_of_eq hg.symm)) hb); have n1_ := Aside0.mk (blk_below (g := gb123) (o := .cells #[.int .i64 a0_0, .slice (some ad126) l0_1.length co19, .int .i64 a0_2, .int .i64 a0_3] 54 (0, 0)) (by (with_reducible repeat (first | refine blk_drewN ?_ _ | refine blk_drew ?_ | refine blk_alloc ?_ _)); exact BK123.out) hb); have n2_ := Aside0.mk (blk_below (g := gb124) (o := .cells #[.int .i64 0, .slice none 0 0, .int .i64 0, .int .i64 0] 54 (0, 0)) (by (with_reducible repeat (first | refine blk_drewN ?_ _ | refine blk_drew ?_ | refine blk_alloc ?_ _)); exact BK124.out) hb); have n3_ := Aside0.mk (Kept.below (S := (fun k_ => P0_1_ k_)) (by repeat (first | (with_reducible first | exact HK.out | apply Kept.alloc | apply Kept.drewN | apply Kept.drew | refine Kept.setCell ?_ (.inr GW123.out) _ | refine Kept.setCell ?_ (.inr GW124.out) _) | exact HK.out)) hb); have n4_ := Aside0.mk (below_step (by repeat (first | (with_reducible first | exact HB.out | apply below_alloc | apply pw_below_drewN | apply below_drew1 | refine below_set ?_ GE123.out | refine below_set ?_ GE124.out) | exact HB.out)) hb); have n5_ := Aside0.mk (hbox); have n6_ := Aside0.mk ((by rw [hg]; exact (by first | exact HK.out.1 | exact (show Kept w _ (fun k_ => P0_1_ k_) from by repeat (first | (with_reducible first | exact HK.out | apply Kept.alloc | apply Kept.drewN | apply Kept.drew | refine Kept.setCell ?_ (.inr GW123.out) _ | refine Kept.setCell ?_ (.inr GW124.out) _) | exact HK.out)).1) : w.heap.size ≤ gb127)); have n7_ := Aside0.mk ((by rw [hg]; exact (below_size (by repeat (first | (with_reducible first | exact HB.out | apply below_alloc | apply pw_below_drewN | apply below_drew1 | refine below_set ?_ GE123.out | refine below_set ?_ GE124.out) | exact HB.out))) : w0.heap.size ≤ gb127)); have n8_ := Aside0.mk ((by rw [hg]; exact Nat.ne_of_lt (blk_lt (g := gb123) (o := .cells #[.int .i64 a0_0, .slice (some ad126) l0_1.length co19, .int .i64 a0_2, .int .i64 a0_3] 54 (0, 0)) (by (with_reducible repeat (first | refine blk_drewN ?_ _ | refine blk_drew ?_ | refine blk_alloc ?_ _)); exact BK123.out)) : gb123 ≠ gb127)); have n9_ := Aside0.mk ((by rw [hg]; exact Nat.ne_of_gt (blk_lt (g := gb123) (o := .cells #[.int .i64 a0_0, .slice (some ad126) l0_1.length co19, .int .i64 a0_2, .int .i64 a0_3] 54 (0, 0)) (by (with_reducible repeat (first | refine blk_drewN ?_ _ | refine blk_drew ?_ | refine blk_alloc ?_ _)); exact BK123.out)) : gb127 ≠ gb123)); have n10_ := Aside0.mk ((by rw [hg]; exact Nat.ne_of_lt (blk_lt (g := gb124) (o := .cells #[.int .i64 0, .slice none 0 0, .int .i64 0, .int .i64 0] 54 (0, 0)) (by (with_reducible repeat (first | refine blk_drewN ?_ _ | refine blk_drew ?_ | refine blk_alloc ?_ _)); exact BK124.out)) : gb124 ≠ gb127)); have n11_ := Aside0.mk ((by rw [hg]; exact Nat.ne_of_gt (blk_lt (g := gb124) (o := .cells #[.int .i64 0, .slice none 0 0, .int .i64 0, .int .i64 0] 54 (0, 0)) (by (with_reducible repeat (first | refine blk_drewN ?_ _ | refine blk_drew ?_ | refine blk_alloc ?_ _)); exact BK124.out)) : gb127 ≠ gb124)); clear HO0_1; clear BK123; clear BK124; clear HK; clear HB; have HO0_1 := n0_; have BK123 := n1_; have BK124 := n2_; have HK := n3_; have HB := n4_; have BK127 := n5_; have GW127 := n6_; have GE127 := n7_; have NB123_127 := n8_; have NB127_123 := n9_; have NB124_127 := n10_; have NB127_124 := n11_; clear n0_ n1_ n2_ n3_ n4_ n5_ n6_ n7_ n8_ n9_ n10_ n11_; clear hb hbox hg; have hnb27 := NB127_123.out; have hnc27 := NB123_127.out; have hnb28 := NB127_124.out; have hnc28 := NB124_127.out; have hcz29_0 : w26.cell? ⟨gb127, 0, none⟩ = some (.int .i64 0) := (blk_cell BK127.out 0).trans rfl; have hcz29_1 : w26.cell? ⟨gb127, 1, none⟩ = some (.int .i64 0) := (blk_cell BK127.out 1).trans rfl; have hcz29_2 : w26.cell? ⟨gb127, 2, none⟩ = some (.string (⟨#[]⟩ : ByteArray)) := (blk_cell BK127.out 2).trans rfl; have hcz29_3 : w26.cell? ⟨gb127, 3, none⟩ = some (.int .i64 0) := (blk_cell BK127.out 3).trans rfl; have hfz29_0 := blk_frozen BK127.out 0; have hfz29_1 := blk_frozen BK127.out 1; have hfz29_2 := blk_frozen BK127.out 2; have hfz29_3 := blk_frozen BK127.out 3; have hcz30_0 : w26.cell? ⟨gb123, 0, none⟩ = some (.int .i64 a0_0) := (blk_cell BK123.out 0).trans rfl; have hcz30_1 : w26.cell? ⟨gb123, 1, none⟩ = some (.slice (some ad126) l0_1.length co19) := (blk_cell BK123.out 1).trans rfl; have hcz30_2 : w26.cell? ⟨gb123, 2, none⟩ = some (.int .i64 a0_2) := (blk_cell BK123.out 2).trans rfl; have hcz30_3 : w26.cell? ⟨gb123, 3, none⟩ = some (.int .i64 a0_3) := (blk_cell BK123.out 3).trans rfl; have hfz30_0 := blk_frozen BK123.out 0; have hfz30_1 := blk_frozen BK123.out 1; have hfz30_2 := blk_frozen BK123.out 2; have hfz30_3 := blk_frozen BK123.out 3) | ((with_reducible refine gate_callee (f := 38) rfl ?_); refine goesL_ (some 30) rfl rfl Try.func38 (by kernel_rfl) rfl #[.agg #[.int .i64 a0_0, .slice (some ad126) l0_1.length co19, .int .i64 a0_2, .int .i64 a0_3], .int .i64 t125] rfl (by (try simp only [List.map_toArray, List.map_cons, List.map_nil]); first | done | rfl | (simp only [List.length_drop, List.length_take]; rfl)) ?_; (with_reducible refine (dasdref25_remove.calls a0_0 _ _ l0_1 a0_2 a0_3 t125 t128 t129 t132 t133 _ ?side1 ?side2 A16.out).mono ?_); (case side1 => refine (Kd.R_reads' (e := 70) (base := w0.heap.size) (ok := fun k_ => ((P0_1_ k_ ∨ w.heap.size ≤ k_) ∧ k_ ≠ gb127)) (n := l0_1.length) (c := co19) ?_).2.2; exact (by (with_reducible repeat (first | apply Kd.R_alloc | apply Kd.R_drewN | apply Kd.R_drew)); exact (Kd.R_mono (Kd.R_far (p := ⟨gb127, 3, none⟩) (Kd.R_far (p := ⟨gb127, 2, none⟩) (Kd.R_far (p := ⟨gb127, 1, none⟩) (Kd.R_far (p := ⟨gb127, 0, none⟩) (Kd.R_mono HO0_1.out (fun k_ hk => (⟨hk, hk.2⟩ : _ ∧ k_ ≠ gb127))) (fun _ hk => hk.2) (.int .i64 ((rd_T70 l0_1 t125).f0.f0))) (fun _ hk => hk.2) (.int .i64 ((rd_T70 l0_1 t125).f0.f1))) (fun _ hk => hk.2) (.string ((rd_T70 l0_1 t125).f1))) (fun _ hk => hk.2) (.int .i64 ((rd_T70 l0_1 t125).f2))) (fun _ h_ => h_.1)))); (case side2 => exact (Kd.R_reads' HO0_1.out).2.1); rintro e w31 ⟨v130, rfl, ho0, hb⟩; refine ⟨_, rfl, ?_⟩; have n0_ := Aside0.mk (Kd.R_elder' (by (with_reducible repeat (first | apply Kd.R_alloc | apply Kd.R_drewN | apply Kd.R_drew)); exact (Kd.R_mono (Kd.R_far (p := ⟨gb127, 3, none⟩) (Kd.R_far (p := ⟨gb127, 2, none⟩) (Kd.R_far (p := ⟨gb127, 1, none⟩) (Kd.R_far (p := ⟨gb127, 0, none⟩) (Kd.R_mono HO0_1.out (fun k_ hk => (⟨hk, hk.2⟩ : _ ∧ k_ ≠ gb127))) (fun _ hk => hk.2) (.int .i64 ((rd_T70 l0_1 t125).f0.f0))) (fun _ hk => hk.2) (.int .i64 ((rd_T70 l0_1 t125).f0.f1))) (fun _ hk => hk.2) (.string ((rd_T70 l0_1 t125).f1))) (fun _ hk => hk.2) (.int .i64 ((rd_T70 l0_1 t125).f2))) (fun _ h_ => h_.1))) (Kd.R_base ho0) hb); have n1_ := Aside0.mk (Kd.R_lower (Kd.R_newB (Kd.R_new' (Kd.R_newM (M := fun k_ => (P0_1_ k_ ∨ w.heap.size ≤ k_)) ho0 (show Kept w _ (fun k_ => P0_1_ k_) from by repeat (first | (with_reducible first | exact HK.out | apply Kept.alloc | apply Kept.drewN | apply Kept.drew | refine Kept.setCell ?_ (.inr GW123.out) _ | refine Kept.setCell ?_ (.inr GW124.out) _ | refine Kept.setCell ?_ (.inr GW127.out) _) | exact HK.out)).1 (fun k_ h_ => .inr h_)) (Kd.R_lt (by (with_reducible repeat (first | apply Kd.R_alloc | apply Kd.R_drewN | apply Kd.R_drew)); exact (Kd.R_mono (Kd.R_far (p := ⟨gb127, 3, none⟩) (Kd.R_far (p := ⟨gb127, 2, none⟩) (Kd.R_far (p := ⟨gb127, 1, none⟩) (Kd.R_far (p := ⟨gb127, 0, none⟩) (Kd.R_mono HO0_1.out (fun k_ hk => (⟨hk, hk.2⟩ : _ ∧ k_ ≠ gb127))) (fun _ hk => hk.2) (.int .i64 ((rd_T70 l0_1 t125).f0.f0))) (fun _ hk => hk.2) (.int .i64 ((rd_T70 l0_1 t125).f0.f1))) (fun _ hk => hk.2) (.string ((rd_T70 l0_1 t125).f1))) (fun _ hk => hk.2) (.int .i64 ((rd_T70 l0_1 t125).f2))) (fun _ h_ => h_.1))))) (g := gb127) (o := .cells #[.int .i64 ((rd_T70 l0_1 t125).f0.f0), .int .i64 ((rd_T70 l0_1 t125).f0.f1), .string ((rd_T70 l0_1 t125).f1), .int .i64 ((rd_T70 l0_1 t125).f2)] 70 (0, 0)) (by (with_reducible repeat (first | refine blk_drewN ?_ _ | refine blk_drew ?_ | refine blk_alloc ?_ _)); refine blk_put (cs := #[.int .i64 ((rd_T70 l0_1 t125).f0.f0), .int .i64 ((rd_T70 l0_1 t125).f0.f1), .string ((rd_T70 l0_1 t125).f1), .int .i64 0]) ?_ 3 _ rfl; (with_reducible repeat (first | refine blk_drewN ?_ _ | refine blk_drew ?_ | refine blk_alloc ?_ _)); refine blk_put (cs := #[.int .i64 ((rd_T70 l0_1 t125).f0.f0), .int .i64 ((rd_T70 l0_1 t125).f0.f1), .string (⟨#[]⟩ : ByteArray), .int .i64 0]) ?_ 2 _ rfl; (with_reducible repeat (first | refine blk_drewN ?_ _ | refine blk_drew ?_ | refine blk_alloc ?_ _)); refine blk_put (cs := #[.int .i64 ((rd_T70 l0_1 t125).f0.f0), .int .i64 0, .string (⟨#[]⟩ : ByteArray), .int .i64 0]) ?_ 1 _ rfl; (with_reducible repeat (first | refine blk_drewN ?_ _ | refine blk_drew ?_ | refine blk_alloc ?_ _)); refine blk_put (cs := #[.int .i64 0, .int .i64 0, .string (⟨#[]⟩ : ByteArray), .int .i64 0]) ?_ 0 _ rfl; (with_reducible repeat (first | refine blk_drewN ?_ _ | refine blk_drew ?_ | refine blk_alloc ?_ _)); exact BK127.out)) (below_size (by repeat (first | (with_reducible first | exact HB.out | apply below_alloc | apply pw_below_drewN | apply below_drew1 | refine below_set ?_ GE123.out | refine below_set ?_ GE124.out | refine below_set ?_ GE127.out) | exact HB.out)))); have n2_ := Aside0.mk (blk_below (g := gb123) (o := .cells #[.int .i64 a0_0, .slice (some ad126) l0_1.length co19, .int .i64 a0_2, .int .i64 a0_3] 54 (0, 0)) (by (with_reducible repeat (first | refine blk_drewN ?_ _ | refine blk_drew ?_ | refine blk_alloc ?_ _)); refine blk_far ?_ NB123_127.out _; (with_reducible repeat (first | refine blk_drewN ?_ _ | refine blk_drew ?_ | refine blk_alloc ?_ _)); refine blk_far ?_ NB123_127.out _; (with_reducible repeat (first | refine blk_drewN ?_ _ | refine blk_drew ?_ | refine blk_alloc ?_ _)); refine blk_far ?_ NB123_127.out _; (with_reducible repeat (first | refine blk_drewN ?_ _ | refine blk_drew ?_ | refine blk_alloc ?_ _)); refine blk_far ?_ NB123_127.out _; (with_reducible repeat (first | refine blk_drewN ?_ _ | refine blk_drew ?_ | refine blk_alloc ?_ _)); exact BK123.out) hb); have n3_ := Aside0.mk (blk_below (g := gb124) (o := .cells #[.int .i64 0, .slice none 0 0, .int .i64 0, .int .i64 0] 54 (0, 0)) (by (with_reducible repeat (first | refine blk_drewN ?_ _ | refine blk_drew ?_ | refine blk_alloc ?_ _)); refine blk_far ?_ NB124_127.out _; (with_reducible repeat (first | refine blk_drewN ?_ _ | refine blk_drew ?_ | refine blk_alloc ?_ _)); refine blk_far ?_ NB124_127.out _; (with_reducible repeat (first | refine blk_drewN ?_ _ | refine blk_drew ?_ | refine blk_alloc ?_ _)); refine blk_far ?_ NB124_127.out _; (with_reducible repeat (first | refine blk_drewN ?_ _ | refine blk_drew ?_ | refine blk_alloc ?_ _)); refine blk_far ?_ NB124_127.out _; (with_reducible repeat (first | refine blk_drewN ?_ _ | refine blk_drew ?_ | refine blk_alloc ?_ _)); exact BK124.out) hb); have n4_ := Aside0.mk (blk_below (g := gb127) (o := .cells #[.int .i64 ((rd_T70 l0_1 t125).f0.f0), .int .i64 ((rd_T70 l0_1 t125).f0.f1), .string ((rd_T70 l0_1 t125).f1), .int .i64 ((rd_T70 l0_1 t125).f2)] 70 (0, 0)) (by (with_reducible repeat (first | refine blk_drewN ?_ _ | refine blk_drew ?_ | refine blk_alloc ?_ _)); refine blk_put (cs := #[.int .i64 ((rd_T70 l0_1 t125).f0.f0), .int .i64 ((rd_T70 l0_1 t125).f0.f1), .string ((rd_T70 l0_1 t125).f1), .int .i64 0]) ?_ 3 _ rfl; (with_reducible repeat (first | refine blk_drewN ?_ _ | refine blk_drew ?_ | refine blk_alloc ?_ _)); refine blk_put (cs := #[.int .i64 ((rd_T70 l0_1 t125).f0.f0), .int .i64 ((rd_T70 l0_1 t125).f0.f1), .string (⟨#[]⟩ : ByteArray), .int .i64 0]) ?_ 2 _ rfl; (with_reducible repeat (first | refine blk_drewN ?_ _ | refine blk_drew ?_ | refine blk_alloc ?_ _)); refine blk_put (cs := #[.int .i64 ((rd_T70 l0_1 t125).f0.f0), .int .i64 0, .string (⟨#[]⟩ : ByteArray), .int .i64 0]) ?_ 1 _ rfl; (with_reducible repeat (first | refine blk_drewN ?_ _ | refine blk_drew ?_ | refine blk_alloc ?_ _)); refine blk_put (cs := #[.int .i64 0, .int .i64 0, .string (⟨#[]⟩ : ByteArray), .int .i64 0]) ?_ 0 _ rfl; (with_reducible repeat (first | refine blk_drewN ?_ _ | refine blk_drew ?_ | refine blk_alloc ?_ _)); exact BK127.out) hb); have n5_ := Aside0.mk (Kept.below (S := (fun k_ => P0_1_ k_)) (by repeat (first | (with_reducible first | exact HK.out | apply Kept.alloc | apply Kept.drewN | apply Kept.drew | refine Kept.setCell ?_ (.inr GW123.out) _ | refine Kept.setCell ?_ (.inr GW124.out) _ | refine Kept.setCell ?_ (.inr GW127.out) _) | exact HK.out)) hb); have n6_ := Aside0.mk (below_step (by repeat (first | (with_reducible first | exact HB.out | apply below_alloc | apply pw_below_drewN | apply below_drew1 | refine below_set ?_ GE123.out | refine below_set ?_ GE124.out | refine below_set ?_ GE127.out) | exact HB.out)) hb); clear HO0_1; clear BK123; clear BK124; clear BK127; clear HK; clear HB; have HO0_1 := n0_; have HO131 := n1_; have BK123 := n2_; have BK124 := n3_; have BK127 := n4_; have HK := n5_; have HB := n6_; clear n0_ n1_ n2_ n3_ n4_ n5_ n6_; (try clear hb); (try clear hb2); (try clear hk); (try clear hi); (try clear ho0); have hcz32_0 : w31.cell? ⟨gb123, 0, none⟩ = some (.int .i64 a0_0) := (blk_cell BK123.out 0).trans rfl; have hcz32_1 : w31.cell? ⟨gb123, 1, none⟩ = some (.slice (some ad126) l0_1.length co19) := (blk_cell BK123.out 1).trans rfl; have hcz32_2 : w31.cell? ⟨gb123, 2, none⟩ = some (.int .i64 a0_2) := (blk_cell BK123.out 2).trans rfl; have hcz32_3 : w31.cell? ⟨gb123, 3, none⟩ = some (.int .i64 a0_3) := (blk_cell BK123.out 3).trans rfl; have hfz32_0 := blk_frozen BK123.out 0; have hfz32_1 := blk_frozen BK123.out 1; have hfz32_2 := blk_frozen BK123.out 2; have hfz32_3 := blk_frozen BK123.out 3; obtain ⟨Ao33, co33, eo33⟩ := Kd.R_slice HO131.out; subst eo33))
            have n0_ : Aside0 (Kd.R k70 70 ((((w31.setCell ⟨gb123, 0, none⟩ (.int .i64 t128)).setCell ⟨gb123, 1, none⟩ (.slice Ao33 t129.length co33)).setCell ⟨gb123, 2, none⟩ (.int .i64 t132)).setCell ⟨gb123, 3, none⟩ (.int .i64 t133)) w0.heap.size (fun k_ => (P0_1_ k_ ∨ w.heap.size ≤ k_) ∧ some k_ ≠ (.slice Ao33 t129.length co33 : Value).ownBlock ∧ k_ ≠ gb127) (.slice (some ad126) l0_1.length co19) l0_1) := ⟨by (with_reducible repeat (first | apply Kd.R_alloc | apply Kd.R_drewN | apply Kd.R_drew)); exact Kd.R_mono (Kd.R_far (p := ⟨gb123, 3, none⟩) (Kd.R_far (p := ⟨gb123, 2, none⟩) (Kd.R_far (p := ⟨gb123, 1, none⟩) (Kd.R_far (p := ⟨gb123, 0, none⟩) (Kd.R_types HO0_1.out BK123.out (by decide)) (fun _ hk => hk.2) (.int .i64 t128)) (fun _ hk => hk.2) (.slice Ao33 t129.length co33)) (fun _ hk => hk.2) (.int .i64 t132)) (fun _ hk => hk.2) (.int .i64 t133)) (fun _ hk => ⟨hk.1.1.1, ⟨hk.1.2, hk.1.1.2⟩⟩)⟩
            have n1_ : Aside0 (Kd.R k70 70 ((((w31.setCell ⟨gb123, 0, none⟩ (.int .i64 t128)).setCell ⟨gb123, 1, none⟩ (.slice Ao33 t129.length co33)).setCell ⟨gb123, 2, none⟩ (.int .i64 t132)).setCell ⟨gb123, 3, none⟩ (.int .i64 t133)) w0.heap.size (fun k_ => (P0_1_ k_ ∨ w.heap.size ≤ k_) ∧ some k_ ≠ (.slice (some ad126) l0_1.length co19 : Value).ownBlock ∧ k_ ≠ gb127) (.slice Ao33 t129.length co33) t129) := ⟨by (with_reducible repeat (first | apply Kd.R_alloc | apply Kd.R_drewN | apply Kd.R_drew)); exact Kd.R_mono (Kd.R_far (p := ⟨gb123, 3, none⟩) (Kd.R_far (p := ⟨gb123, 2, none⟩) (Kd.R_far (p := ⟨gb123, 1, none⟩) (Kd.R_far (p := ⟨gb123, 0, none⟩) (Kd.R_types HO131.out BK123.out (by decide)) (fun _ hk => hk.2) (.int .i64 t128)) (fun _ hk => hk.2) (.slice Ao33 t129.length co33)) (fun _ hk => hk.2) (.int .i64 t132)) (fun _ hk => hk.2) (.int .i64 t133)) (fun _ hk => ⟨hk.1.1.1.1, ⟨hk.1.1.2, hk.1.2⟩⟩)⟩
            have n2_ : Aside0 (((((w31.setCell ⟨gb123, 0, none⟩ (.int .i64 t128)).setCell ⟨gb123, 1, none⟩ (.slice Ao33 t129.length co33)).setCell ⟨gb123, 2, none⟩ (.int .i64 t132)).setCell ⟨gb123, 3, none⟩ (.int .i64 t133)).heap[gb123]? = some (.cells #[.int .i64 t128, .slice Ao33 t129.length co33, .int .i64 t132, .int .i64 t133] 54 (0, 0))) := ⟨by (with_reducible repeat (first | refine blk_drewN ?_ _ | refine blk_drew ?_ | refine blk_alloc ?_ _)); refine blk_put (cs := #[.int .i64 t128, .slice Ao33 t129.length co33, .int .i64 t132, .int .i64 a0_3]) ?_ 3 _ rfl; (with_reducible repeat (first | refine blk_drewN ?_ _ | refine blk_drew ?_ | refine blk_alloc ?_ _)); refine blk_put (cs := #[.int .i64 t128, .slice Ao33 t129.length co33, .int .i64 a0_2, .int .i64 a0_3]) ?_ 2 _ rfl; (with_reducible repeat (first | refine blk_drewN ?_ _ | refine blk_drew ?_ | refine blk_alloc ?_ _)); refine blk_put (cs := #[.int .i64 t128, .slice (some ad126) l0_1.length co19, .int .i64 a0_2, .int .i64 a0_3]) ?_ 1 _ rfl; (with_reducible repeat (first | refine blk_drewN ?_ _ | refine blk_drew ?_ | refine blk_alloc ?_ _)); refine blk_put (cs := #[.int .i64 a0_0, .slice (some ad126) l0_1.length co19, .int .i64 a0_2, .int .i64 a0_3]) ?_ 0 _ rfl; (with_reducible repeat (first | refine blk_drewN ?_ _ | refine blk_drew ?_ | refine blk_alloc ?_ _)); exact BK123.out⟩
            have n3_ : Aside0 (((((w31.setCell ⟨gb123, 0, none⟩ (.int .i64 t128)).setCell ⟨gb123, 1, none⟩ (.slice Ao33 t129.length co33)).setCell ⟨gb123, 2, none⟩ (.int .i64 t132)).setCell ⟨gb123, 3, none⟩ (.int .i64 t133)).heap[gb124]? = some (.cells #[.int .i64 0, .slice none 0 0, .int .i64 0, .int .i64 0] 54 (0, 0))) := ⟨by (with_reducible repeat (first | refine blk_drewN ?_ _ | refine blk_drew ?_ | refine blk_alloc ?_ _)); refine blk_far ?_ NB124_123.out _; (with_reducible repeat (first | refine blk_drewN ?_ _ | refine blk_drew ?_ | refine blk_alloc ?_ _)); refine blk_far ?_ NB124_123.out _; (with_reducible repeat (first | refine blk_drewN ?_ _ | refine blk_drew ?_ | refine blk_alloc ?_ _)); refine blk_far ?_ NB124_123.out _; (with_reducible repeat (first | refine blk_drewN ?_ _ | refine blk_drew ?_ | refine blk_alloc ?_ _)); refine blk_far ?_ NB124_123.out _; (with_reducible repeat (first | refine blk_drewN ?_ _ | refine blk_drew ?_ | refine blk_alloc ?_ _)); exact BK124.out⟩
            have n4_ : Aside0 (((((w31.setCell ⟨gb123, 0, none⟩ (.int .i64 t128)).setCell ⟨gb123, 1, none⟩ (.slice Ao33 t129.length co33)).setCell ⟨gb123, 2, none⟩ (.int .i64 t132)).setCell ⟨gb123, 3, none⟩ (.int .i64 t133)).heap[gb127]? = some (.cells #[.int .i64 ((rd_T70 l0_1 t125).f0.f0), .int .i64 ((rd_T70 l0_1 t125).f0.f1), .string ((rd_T70 l0_1 t125).f1), .int .i64 ((rd_T70 l0_1 t125).f2)] 70 (0, 0))) := ⟨by (with_reducible repeat (first | refine blk_drewN ?_ _ | refine blk_drew ?_ | refine blk_alloc ?_ _)); refine blk_far ?_ NB127_123.out _; (with_reducible repeat (first | refine blk_drewN ?_ _ | refine blk_drew ?_ | refine blk_alloc ?_ _)); refine blk_far ?_ NB127_123.out _; (with_reducible repeat (first | refine blk_drewN ?_ _ | refine blk_drew ?_ | refine blk_alloc ?_ _)); refine blk_far ?_ NB127_123.out _; (with_reducible repeat (first | refine blk_drewN ?_ _ | refine blk_drew ?_ | refine blk_alloc ?_ _)); refine blk_far ?_ NB127_123.out _; (with_reducible repeat (first | refine blk_drewN ?_ _ | refine blk_drew ?_ | refine blk_alloc ?_ _)); exact BK127.out⟩
            have n5_ : Aside0 (Kept w ((((w31.setCell ⟨gb123, 0, none⟩ (.int .i64 t128)).setCell ⟨gb123, 1, none⟩ (.slice Ao33 t129.length co33)).setCell ⟨gb123, 2, none⟩ (.int .i64 t132)).setCell ⟨gb123, 3, none⟩ (.int .i64 t133)) (fun k_ => P0_1_ k_)) := ⟨by repeat (first | (with_reducible first | exact HK.out | apply Kept.alloc | apply Kept.drewN | apply Kept.drew | refine Kept.setCell ?_ (.inr GW123.out) _ | refine Kept.setCell ?_ (.inr GW124.out) _ | refine Kept.setCell ?_ (.inr GW127.out) _) | exact HK.out)⟩
            have n6_ : Aside0 (Below w0.heap.size w0 ((((w31.setCell ⟨gb123, 0, none⟩ (.int .i64 t128)).setCell ⟨gb123, 1, none⟩ (.slice Ao33 t129.length co33)).setCell ⟨gb123, 2, none⟩ (.int .i64 t132)).setCell ⟨gb123, 3, none⟩ (.int .i64 t133))) := ⟨by repeat (first | (with_reducible first | exact HB.out | apply below_alloc | apply pw_below_drewN | apply below_drew1 | refine below_set ?_ GE123.out | refine below_set ?_ GE124.out | refine below_set ?_ GE127.out) | exact HB.out)⟩
            (try clear HO0_1)
            (try clear HO131)
            (try clear BK123)
            (try clear BK124)
            (try clear BK127)
            (try clear HK)
            (try clear HB)
            generalize ((((w31.setCell ⟨gb123, 0, none⟩ (.int .i64 t128)).setCell ⟨gb123, 1, none⟩ (.slice Ao33 t129.length co33)).setCell ⟨gb123, 2, none⟩ (.int .i64 t132)).setCell ⟨gb123, 3, none⟩ (.int .i64 t133)) = w34 at n0_ n1_ n2_ n3_ n4_ n5_ n6_ ⊢
            have HO0_1 := n0_
            have HO131 := n1_
            have BK123 := n2_
            have BK124 := n3_
            have BK127 := n4_
            have HK := n5_
            have HB := n6_
            clear n0_ n1_ n2_ n3_ n4_ n5_ n6_
            have n0_ := Aside0.mk (Kd.R_drew HO0_1.out)
            have n1_ := Aside0.mk (Kd.R_drew HO131.out)
            have n2_ := Aside0.mk (blk_drew BK123.out)
            have n3_ := Aside0.mk (blk_drew BK124.out)
            have n4_ := Aside0.mk (blk_drew BK127.out)
            have n5_ := Aside0.mk (Kept.drew HK.out)
            have n6_ := Aside0.mk (below_drew1 HB.out)
            clear HO0_1
            clear HO131
            clear BK123
            clear BK124
            clear BK127
            clear HK
            clear HB
            have HO0_1 := n0_
            have HO131 := n1_
            have BK123 := n2_
            have BK124 := n3_
            have BK127 := n4_
            have HK := n5_
            have HB := n6_
            clear n0_ n1_ n2_ n3_ n4_ n5_ n6_
            refine start_ (n := 14) (S := fun w' => w'.cell? ⟨gb123, 0, none⟩ = some (.int .i64 t128) ∧ w'.cell? ⟨gb123, 1, none⟩ = some (.slice Ao33 t129.length co33) ∧ w'.cell? ⟨gb123, 2, none⟩ = some (.int .i64 t132) ∧ w'.cell? ⟨gb123, 3, none⟩ = some (.int .i64 t133) ∧ w'.cell? ⟨gb127, 0, none⟩ = some (.int .i64 ((rd_T70 l0_1 t125).f0.f0)) ∧ w'.cell? ⟨gb127, 1, none⟩ = some (.int .i64 ((rd_T70 l0_1 t125).f0.f1)) ∧ w'.cell? ⟨gb127, 2, none⟩ = some (.string ((rd_T70 l0_1 t125).f1)) ∧ w'.cell? ⟨gb127, 3, none⟩ = some (.int .i64 ((rd_T70 l0_1 t125).f2))) (ds := [11, 13]) #[false, false, false, false, false, false, false, false, false, false, false, false, false, false] (by kernel_rfl) rfl rfl ⟨(blk_cell BK123.out 0).trans rfl, (blk_cell BK123.out 1).trans rfl, (blk_cell BK123.out 2).trans rfl, (blk_cell BK123.out 3).trans rfl, (blk_cell BK127.out 0).trans rfl, (blk_cell BK127.out 1).trans rfl, (blk_cell BK127.out 2).trans rfl, (blk_cell BK127.out 3).trans rfl⟩ (fun hHeld => ?_); refine with_tabW dasdref25_Get.tab7 dasdref25_Get.bits7 (fun HT_ HW_ => ?_)
            generalize w34.drew = w35 at HO0_1 HO131 BK123 BK124 BK127 HK HB hHeld ⊢
            refine pure_ (i := 1) (N := some 32) (v := ?_) (a' := ?_) #[false, true, false, false, false, false, false, false, false, false, false, false, false, false] rfl rfl (any_of HT_.out (by kernel_rfl)) (fun _ _ _ h => h) (Or.inl ⟨by rfl, ?_⟩) ?_ ?_
            rotate_left
            · intro w'
              go_simp
              with_reducible rfl
            rotate_left
            · simp only [Act.put, List.setIfInBounds_toArray, List.set_cons_zero, List.set_cons_succ, i64_w, i32_w]
              rfl
            refine pure_ (i := 7) (N := some 38) (v := ?_) (a' := ?_) #[false, true, false, false, false, false, false, true, false, false, false, false, false, false] rfl rfl (any_of HT_.out (by kernel_rfl)) (fun _ _ _ h => h) (Or.inl ⟨by rfl, ?_⟩) ?_ ?_
            rotate_left
            · intro w'
              go_simp
              with_reducible rfl
            rotate_left
            · simp only [Act.put, List.setIfInBounds_toArray, List.set_cons_zero, List.set_cons_succ, i64_w, i32_w]
              rfl
            refine take_ (i := 2) (N := some 33) (v := ?_) (a' := ?_) #[false, true, true, false, false, false, false, true, false, false, false, false, false, false] rfl rfl (take_ofW HT_.out HW_.out (by kernel_rfl)) (fun _ _ _ h => h) (Or.inl ⟨by rfl, ?_⟩) hHeld ?_ ?_
            rotate_left
            · rintro w' ⟨s0, s1, s2, s3, s4, s5, s6, s7⟩
              go_simp
              with_reducible rfl
            rotate_left
            · simp only [Act.put, List.setIfInBounds_toArray, List.set_cons_zero, List.set_cons_succ, i64_w, i32_w]
              rfl
            refine take_ (i := 4) (N := some 35) (v := ?_) (a' := ?_) #[false, true, true, false, true, false, false, true, false, false, false, false, false, false] rfl rfl (take_ofW HT_.out HW_.out (by kernel_rfl)) (fun _ _ _ h => h) (Or.inl ⟨by rfl, ?_⟩) hHeld ?_ ?_
            rotate_left
            · rintro w' ⟨s0, s1, s2, s3, s4, s5, s6, s7⟩
              go_simp
              with_reducible rfl
            rotate_left
            · simp only [Act.put, List.setIfInBounds_toArray, List.set_cons_zero, List.set_cons_succ, i64_w, i32_w]
              rfl
            refine take_ (i := 8) (N := some 39) (v := ?_) (a' := ?_) #[false, true, true, false, true, false, false, true, true, false, false, false, false, false] rfl rfl (take_ofW HT_.out HW_.out (by kernel_rfl)) (fun _ _ _ h => h) (Or.inl ⟨by rfl, ?_⟩) hHeld ?_ ?_
            rotate_left
            · rintro w' ⟨s0, s1, s2, s3, s4, s5, s6, s7⟩
              go_simp
              with_reducible rfl
            rotate_left
            · simp only [Act.put, List.setIfInBounds_toArray, List.set_cons_zero, List.set_cons_succ, i64_w, i32_w]
              rfl
            refine pure_ (i := 9) (N := some 40) (v := ?_) (a' := ?_) #[false, true, true, false, true, false, false, true, true, true, false, false, false, false] rfl rfl (any_of HT_.out (by kernel_rfl)) (fun _ _ _ h => h) (Or.inl ⟨by rfl, ?_⟩) ?_ ?_
            rotate_left
            · intro w'
              go_simp
              with_reducible rfl
            rotate_left
            · simp only [Act.put, List.setIfInBounds_toArray, List.set_cons_zero, List.set_cons_succ, i64_w, i32_w]
              rfl
            refine join_ (σ := Value × Value × Value) 5 #[true, true, true, true, true, true, false, true, true, true, false, false, false, false] (fun s_ => [(31, s_.1), (34, s_.2.1), (36, s_.2.2)]) (fun s_ w' => (w'.cell? ⟨gb123, 0, none⟩ = some (.int .i64 t128) ∧ w'.cell? ⟨gb123, 1, none⟩ = some (.slice Ao33 t129.length co33) ∧ w'.cell? ⟨gb123, 2, none⟩ = some (.int .i64 t132) ∧ w'.cell? ⟨gb123, 3, none⟩ = some (.int .i64 t133) ∧ w'.cell? ⟨gb127, 0, none⟩ = some (.int .i64 ((rd_T70 l0_1 t125).f0.f0)) ∧ w'.cell? ⟨gb127, 1, none⟩ = some (.int .i64 ((rd_T70 l0_1 t125).f0.f1)) ∧ w'.cell? ⟨gb127, 2, none⟩ = some (.string ((rd_T70 l0_1 t125).f1)) ∧ w'.cell? ⟨gb127, 3, none⟩ = some (.int .i64 ((rd_T70 l0_1 t125).f2))) ∧ (Kd.R k70 70 w' w0.heap.size (fun k_ => (P0_1_ k_ ∨ w.heap.size ≤ k_) ∧ some k_ ≠ (.slice Ao33 t129.length co33 : Value).ownBlock ∧ some k_ ≠ (s_.2.1 : Value).ownBlock ∧ some k_ ≠ (s_.2.2 : Value).ownBlock ∧ k_ ≠ gb127) (.slice (some ad126) l0_1.length co19) l0_1) ∧ (Kd.R k70 70 w' w0.heap.size (fun k_ => (P0_1_ k_ ∨ w.heap.size ≤ k_) ∧ some k_ ≠ (.slice (some ad126) l0_1.length co19 : Value).ownBlock ∧ some k_ ≠ (s_.2.1 : Value).ownBlock ∧ some k_ ≠ (s_.2.2 : Value).ownBlock ∧ k_ ≠ gb127) (.slice Ao33 t129.length co33) t129) ∧ (Kd.R k70 70 w' w0.heap.size (fun k_ => (P0_1_ k_ ∨ w.heap.size ≤ k_) ∧ some k_ ≠ (.slice (some ad126) l0_1.length co19 : Value).ownBlock ∧ some k_ ≠ (.slice Ao33 t129.length co33 : Value).ownBlock ∧ some k_ ≠ (s_.2.2 : Value).ownBlock ∧ k_ ≠ gb127) s_.2.1 y137) ∧ (Kd.R k70 70 w' w0.heap.size (fun k_ => (P0_1_ k_ ∨ w.heap.size ≤ k_) ∧ some k_ ≠ (.slice (some ad126) l0_1.length co19 : Value).ownBlock ∧ some k_ ≠ (.slice Ao33 t129.length co33 : Value).ownBlock ∧ some k_ ≠ (s_.2.1 : Value).ownBlock ∧ k_ ≠ gb127) s_.2.2 y140) ∧ (w'.heap[gb123]? = some (.cells #[.int .i64 t128, .slice Ao33 t129.length co33, .int .i64 t132, .int .i64 t133] 54 (0, 0))) ∧ (w'.heap[gb124]? = some (.cells #[.int .i64 0, .slice none 0 0, .int .i64 0, .int .i64 0] 54 (0, 0))) ∧ (w'.heap[gb127]? = some (.cells #[.int .i64 ((rd_T70 l0_1 t125).f0.f0), .int .i64 ((rd_T70 l0_1 t125).f0.f1), .string ((rd_T70 l0_1 t125).f1), .int .i64 ((rd_T70 l0_1 t125).f2)] 70 (0, 0))) ∧ (Kept w w' (fun k_ => P0_1_ k_)) ∧ (Below w0.heap.size w0 w')) ?_ ?_
            rotate_left
            · intro hCont
              refine two_ (i := 0) (j := 5) (Ni := some 31) (Nj := some 36) #[true, true, true, false, true, false, false, true, true, true, false, false, false, false] #[false, true, true, false, true, true, false, true, true, true, false, false, false, false] rfl rfl rfl rfl (two_of HT_.out (by kernel_rfl)) (by decide) (by decide) (fun K hK => ?_) (fun K hK => ?_)
              · skip
                refine Kd.R_lit_step k70 _ 70 ?hg (N := 31) ?hd (xs := ([] : List (S70))) (inner := []) (ok := fun _ => True) (okp := fun _ => True) ?hr ?hp (fun _ hk => hk) trivial (Below.refl _ _) (Nat.le_refl _) (by simp) ?_; (case hd => rfl); (case hg => rfl); (case hr => first | (go_simp; done) | (go_simp; rfl)); (case hp => exact (Reps.none _ _))
                intro v135 w36 ho37 hb hg_ hnew_
                clear hg_ hnew_
                (first | rw [← Ny134.out] at ho37 | (simp only [Int.reduceToNat] at ho37; rw [← Ny134.out] at ho37))
                have n0_ := Aside0.mk (Kd.R_elder' (by (with_reducible repeat (first | apply Kd.R_alloc | apply Kd.R_drewN | apply Kd.R_drew)); exact HO0_1.out) (Kd.R_base ho37) hb)
                have n1_ := Aside0.mk (Kd.R_elder' (by (with_reducible repeat (first | apply Kd.R_alloc | apply Kd.R_drewN | apply Kd.R_drew)); exact HO131.out) (Kd.R_base ho37) hb)
                have n2_ := Aside0.mk (Kd.R_lower (Kd.R_newB (Kd.R_new' (Kd.R_new' (Kd.R_newM (M := fun k_ => (P0_1_ k_ ∨ w.heap.size ≤ k_)) ho37 (by first | exact HK.out.1 | exact (show Kept w _ (fun k_ => P0_1_ k_) from by repeat (first | (with_reducible first | exact HK.out | apply Kept.alloc | apply Kept.drewN | apply Kept.drew | refine Kept.setCell ?_ (.inr GW123.out) _ | refine Kept.setCell ?_ (.inr GW124.out) _ | refine Kept.setCell ?_ (.inr GW127.out) _) | exact HK.out)).1) (fun k_ h_ => .inr h_)) (Kd.R_lt (by (with_reducible repeat (first | apply Kd.R_alloc | apply Kd.R_drewN | apply Kd.R_drew)); exact HO0_1.out))) (Kd.R_lt (by (with_reducible repeat (first | apply Kd.R_alloc | apply Kd.R_drewN | apply Kd.R_drew)); exact HO131.out))) (g := gb127) (o := .cells #[.int .i64 ((rd_T70 l0_1 t125).f0.f0), .int .i64 ((rd_T70 l0_1 t125).f0.f1), .string ((rd_T70 l0_1 t125).f1), .int .i64 ((rd_T70 l0_1 t125).f2)] 70 (0, 0)) (by (with_reducible repeat (first | refine blk_drewN ?_ _ | refine blk_drew ?_ | refine blk_alloc ?_ _)); exact BK127.out)) (below_size (by repeat (first | (with_reducible first | exact HB.out | apply below_alloc | apply pw_below_drewN | apply below_drew1 | refine below_set ?_ GE123.out | refine below_set ?_ GE124.out | refine below_set ?_ GE127.out) | exact HB.out))))
                have n3_ := Aside0.mk (blk_below (g := gb123) (o := .cells #[.int .i64 t128, .slice Ao33 t129.length co33, .int .i64 t132, .int .i64 t133] 54 (0, 0)) (by (with_reducible repeat (first | refine blk_drewN ?_ _ | refine blk_drew ?_ | refine blk_alloc ?_ _)); exact BK123.out) hb)
                have n4_ := Aside0.mk (blk_below (g := gb124) (o := .cells #[.int .i64 0, .slice none 0 0, .int .i64 0, .int .i64 0] 54 (0, 0)) (by (with_reducible repeat (first | refine blk_drewN ?_ _ | refine blk_drew ?_ | refine blk_alloc ?_ _)); exact BK124.out) hb)
                have n5_ := Aside0.mk (blk_below (g := gb127) (o := .cells #[.int .i64 ((rd_T70 l0_1 t125).f0.f0), .int .i64 ((rd_T70 l0_1 t125).f0.f1), .string ((rd_T70 l0_1 t125).f1), .int .i64 ((rd_T70 l0_1 t125).f2)] 70 (0, 0)) (by (with_reducible repeat (first | refine blk_drewN ?_ _ | refine blk_drew ?_ | refine blk_alloc ?_ _)); exact BK127.out) hb)
                have n6_ := Aside0.mk (Kept.below (S := (fun k_ => P0_1_ k_)) (by repeat (first | (with_reducible first | exact HK.out | apply Kept.alloc | apply Kept.drewN | apply Kept.drew | refine Kept.setCell ?_ (.inr GW123.out) _ | refine Kept.setCell ?_ (.inr GW124.out) _ | refine Kept.setCell ?_ (.inr GW127.out) _) | exact HK.out)) hb)
                have n7_ := Aside0.mk (below_step (by repeat (first | (with_reducible first | exact HB.out | apply below_alloc | apply pw_below_drewN | apply below_drew1 | refine below_set ?_ GE123.out | refine below_set ?_ GE124.out | refine below_set ?_ GE127.out) | exact HB.out)) hb)
                clear HO0_1
                clear HO131
                clear BK123
                clear BK124
                clear BK127
                clear HK
                clear HB
                have HO0_1 := n0_
                have HO131 := n1_
                have HO136 := n2_
                have BK123 := n3_
                have BK124 := n4_
                have BK127 := n5_
                have HK := n6_
                have HB := n7_
                clear n0_ n1_ n2_ n3_ n4_ n5_ n6_ n7_
                clear hb ho37
                refine hK.out _ _ ⟨(blk_cell BK123.out 0).trans rfl, (blk_cell BK123.out 1).trans rfl, (blk_cell BK123.out 2).trans rfl, (blk_cell BK123.out 3).trans rfl, (blk_cell BK127.out 0).trans rfl, (blk_cell BK127.out 1).trans rfl, (blk_cell BK127.out 2).trans rfl, (blk_cell BK127.out 3).trans rfl⟩ (fun hHeld => ?_)
                clear hK K
                refine norm_ (a' := ?_) ?_ ?_
                rotate_left
                · show Act.put _ (some 31) _ = _
                  simp only [Act.put, List.setIfInBounds_toArray, List.set_cons_zero, List.set_cons_succ, i64_w, i32_w]
                  rfl
                refine two_ (i := 3) (j := 5) (Ni := some 34) (Nj := some 36) #[true, true, true, true, true, false, false, true, true, true, false, false, false, false] #[true, true, true, false, true, true, false, true, true, true, false, false, false, false] rfl rfl rfl rfl (two_of HT_.out (by kernel_rfl)) (by decide) (by decide) (fun K hK => ?_) (fun K hK => ?_)
                · skip
                  refine Kd.R_append_rows_step k70 (w0 := w0) w0.heap.size (by rfl) (.tmp 31) (.tmp 33) 52 70 (.agg #[(.int .i64 0), (.int .i64 0), (.string ⟨#[]⟩), (.int .i64 0)]) 40 rfl Try.underlying52 info70 rfl (by decide) (by omega) v135 y134 t129 _ _ _ (fun k_ => (P0_1_ k_ ∨ w.heap.size ≤ k_) ∧ some k_ ≠ (.slice (some ad126) l0_1.length co19 : Value).ownBlock ∧ some k_ ≠ (.slice Ao33 t129.length co33 : Value).ownBlock ∧ k_ ≠ gb127) (fun _ => False) rfl rfl ?aO ?aR (fun _ _ h => h) (fun _ h => h.elim) ?aF ?aB ?aS ?aL ?_
                  (case aR => repeat (first | exact (Kd.R_reads' HO131.out).2.2 | (with_reducible refine Kd.C_alloc ?_ _) | (with_reducible refine Kd.C_drewN ?_ _) | (with_reducible refine Kd.C_drew ?_)))
                  (case aB => exact (by repeat (first | (with_reducible first | exact HB.out | apply below_alloc | apply pw_below_drewN | apply below_drew1 | refine below_set ?_ GE123.out | refine below_set ?_ GE124.out | refine below_set ?_ GE127.out) | exact HB.out)))
                  (case aF => exact (fun k_ hk => ⟨(.inr (Nat.le_trans (by first | exact HK.out.1 | exact (show Kept w _ (fun k_ => P0_1_ k_) from by repeat (first | (with_reducible first | exact HK.out | apply Kept.alloc | apply Kept.drewN | apply Kept.drew | refine Kept.setCell ?_ (.inr GW123.out) _ | refine Kept.setCell ?_ (.inr GW124.out) _ | refine Kept.setCell ?_ (.inr GW127.out) _) | exact HK.out)).1) hk)), Kd.fresh' (Kd.R_lt (by (with_reducible repeat (first | apply Kd.R_alloc | apply Kd.R_drewN | apply Kd.R_drew)); exact HO0_1.out)) k_ hk, Kd.fresh' (Kd.R_lt (by (with_reducible repeat (first | apply Kd.R_alloc | apply Kd.R_drewN | apply Kd.R_drew)); exact HO131.out)) k_ hk, Kd.freshB (g := gb127) (o := .cells #[.int .i64 ((rd_T70 l0_1 t125).f0.f0), .int .i64 ((rd_T70 l0_1 t125).f0.f1), .string ((rd_T70 l0_1 t125).f1), .int .i64 ((rd_T70 l0_1 t125).f2)] 70 (0, 0)) (by (with_reducible repeat (first | refine blk_drewN ?_ _ | refine blk_drew ?_ | refine blk_alloc ?_ _)); exact BK127.out) k_ hk⟩))
                  (case aO => exact (by (with_reducible repeat (first | apply Kd.R_alloc | apply Kd.R_drewN | apply Kd.R_drew)); exact Kd.R_mono HO136.out (fun _ hk => ⟨hk.1.1.1.1, ⟨hk.1.1.2, ⟨hk.1.2, hk.2⟩⟩⟩)))
                  (case aS => exact (below_size (by repeat (first | (with_reducible first | exact HB.out | apply below_alloc | apply pw_below_drewN | apply below_drew1 | refine below_set ?_ GE123.out | refine below_set ?_ GE124.out | refine below_set ?_ GE127.out) | exact HB.out))))
                  (case aL => have := LMc17.out; omega)
                  intro v138 w38 ho hb hg hat
                  rw [← Ny137.out] at ho
                  have n0_ := Aside0.mk (Kd.R_after (ok := (fun k_ => (P0_1_ k_ ∨ w.heap.size ≤ k_) ∧ some k_ ≠ (.slice Ao33 t129.length co33 : Value).ownBlock ∧ k_ ≠ gb127)) (by (with_reducible repeat (first | apply Kd.R_alloc | apply Kd.R_drewN | apply Kd.R_drew)); exact HO0_1.out) hg hat)
                  have n1_ := Aside0.mk (blk_grown (g := gb123) (o := .cells #[.int .i64 t128, .slice Ao33 t129.length co33, .int .i64 t132, .int .i64 t133] 54 (0, 0)) (by (with_reducible repeat (first | refine blk_drewN ?_ _ | refine blk_drew ?_ | refine blk_alloc ?_ _)); exact BK123.out) hg (Kd.R_ne HO136.out BK123.out (by decide)))
                  have n2_ := Aside0.mk (blk_grown (g := gb124) (o := .cells #[.int .i64 0, .slice none 0 0, .int .i64 0, .int .i64 0] 54 (0, 0)) (by (with_reducible repeat (first | refine blk_drewN ?_ _ | refine blk_drew ?_ | refine blk_alloc ?_ _)); exact BK124.out) hg (Kd.R_ne HO136.out BK124.out (by decide)))
                  have n3_ := Aside0.mk (blk_grown (g := gb127) (o := .cells #[.int .i64 ((rd_T70 l0_1 t125).f0.f0), .int .i64 ((rd_T70 l0_1 t125).f0.f1), .string ((rd_T70 l0_1 t125).f1), .int .i64 ((rd_T70 l0_1 t125).f2)] 70 (0, 0)) (by (with_reducible repeat (first | refine blk_drewN ?_ _ | refine blk_drew ?_ | refine blk_alloc ?_ _)); exact BK127.out) hg (Kd.R_away HO136.out (fun _ hk => hk.2)))
                  have n4_ := Aside0.mk (Kd.R_after (ok := (fun k_ => (P0_1_ k_ ∨ w.heap.size ≤ k_) ∧ some k_ ≠ (.slice (some ad126) l0_1.length co19 : Value).ownBlock ∧ k_ ≠ gb127)) (by (with_reducible repeat (first | apply Kd.R_alloc | apply Kd.R_drewN | apply Kd.R_drew)); exact HO131.out) hg hat)
                  have n5_ := Aside0.mk (hb)
                  have n6_ := Aside0.mk (Kept.of_grown (S := (fun k_ => P0_1_ k_)) hg (by repeat (first | (with_reducible first | exact HK.out | apply Kept.alloc | apply Kept.drewN | apply Kept.drew | refine Kept.setCell ?_ (.inr GW123.out) _ | refine Kept.setCell ?_ (.inr GW124.out) _ | refine Kept.setCell ?_ (.inr GW127.out) _) | exact HK.out)) (fun k_ e_ => (HO136.out.1 k_ e_).1.1.1.1))
                  have n7_ := Aside0.mk (ho)
                  clear HO0_1
                  clear BK123
                  clear BK124
                  clear BK127
                  clear HO131
                  clear HB
                  clear HK
                  clear HO136
                  have HO0_1 := n0_
                  have BK123 := n1_
                  have BK124 := n2_
                  have BK127 := n3_
                  have HO131 := n4_
                  have HB := n5_
                  have HK := n6_
                  have HO139 := n7_
                  clear n0_ n1_ n2_ n3_ n4_ n5_ n6_ n7_
                  clear ho hb hg hat
                  refine hK.out _ _ ⟨(blk_cell BK123.out 0).trans rfl, (blk_cell BK123.out 1).trans rfl, (blk_cell BK123.out 2).trans rfl, (blk_cell BK123.out 3).trans rfl, (blk_cell BK127.out 0).trans rfl, (blk_cell BK127.out 1).trans rfl, (blk_cell BK127.out 2).trans rfl, (blk_cell BK127.out 3).trans rfl⟩ (fun hHeld => ?_)
                  clear hK K
                  refine norm_ (a' := ?_) ?_ ?_
                  rotate_left
                  · show Act.put _ (some 34) _ = _
                    simp only [Act.put, List.setIfInBounds_toArray, List.set_cons_zero, List.set_cons_succ, i64_w, i32_w]
                    rfl
                  refine one_ (i := 5) (N := some 36) #[true, true, true, true, true, true, false, true, true, true, false, false, false, false] rfl rfl (one_of HT_.out (by kernel_rfl)) (by decide) (fun K hK => ?_)
                  refine Kd.R_lit_step k70 _ 70 ?hg (N := 36) ?hd (xs := ([(⟨(⟨(rd_T70 l0_1 t125).f0.f0, (rd_T70 l0_1 t125).f0.f1⟩ : S40), (rd_T70 l0_1 t125).f1, (rd_T70 l0_1 t125).f2⟩ : S70)] : List (S70))) (inner := [.int .i64 ((rd_T70 l0_1 t125).f0.f0), .int .i64 ((rd_T70 l0_1 t125).f0.f1), .string ((rd_T70 l0_1 t125).f1), .int .i64 ((rd_T70 l0_1 t125).f2)]) (ok := fun _ => True) (okp := fun _ => True) ?hr ?hp (fun _ hk => hk) trivial (Below.refl _ _) (Nat.le_refl _) (by simp) ?_; (case hd => rfl); (case hg => rfl); (case hr => first | (go_simp; done) | (go_simp; rfl)); (case hp => exact (Reps.c4 (show Kd.M k70 _ _ _ (⟨(⟨(rd_T70 l0_1 t125).f0.f0, (rd_T70 l0_1 t125).f0.f1⟩ : S40), (rd_T70 l0_1 t125).f1, (rd_T70 l0_1 t125).f2⟩ : S70) [.int .i64 ((rd_T70 l0_1 t125).f0.f0), .int .i64 ((rd_T70 l0_1 t125).f0.f1), .string ((rd_T70 l0_1 t125).f1), .int .i64 ((rd_T70 l0_1 t125).f2)] from (k70_mkM _ _ _ (⟨(⟨(rd_T70 l0_1 t125).f0.f0, (rd_T70 l0_1 t125).f0.f1⟩ : S40), (rd_T70 l0_1 t125).f1, (rd_T70 l0_1 t125).f2⟩ : S70) )) (Reps.none _ _)))
                  intro v141 w39 ho40 hb hg_ hnew_
                  clear hg_ hnew_
                  (first | rw [← Ny140.out] at ho40 | (simp only [Int.reduceToNat] at ho40; rw [← Ny140.out] at ho40))
                  have n0_ := Aside0.mk (Kd.R_elder' (by (with_reducible repeat (first | apply Kd.R_alloc | apply Kd.R_drewN | apply Kd.R_drew)); exact HO0_1.out) (Kd.R_base ho40) hb)
                  have n1_ := Aside0.mk (Kd.R_elder' (by (with_reducible repeat (first | apply Kd.R_alloc | apply Kd.R_drewN | apply Kd.R_drew)); exact HO131.out) (Kd.R_base ho40) hb)
                  have n2_ := Aside0.mk (Kd.R_elder' (by (with_reducible repeat (first | apply Kd.R_alloc | apply Kd.R_drewN | apply Kd.R_drew)); exact HO139.out) (Kd.R_base ho40) hb)
                  have n3_ := Aside0.mk (Kd.R_lower (Kd.R_newB (Kd.R_new' (Kd.R_new' (Kd.R_new' (Kd.R_newM (M := fun k_ => (P0_1_ k_ ∨ w.heap.size ≤ k_)) ho40 (by first | exact HK.out.1 | exact (show Kept w _ (fun k_ => P0_1_ k_) from by repeat (first | (with_reducible first | exact HK.out | apply Kept.alloc | apply Kept.drewN | apply Kept.drew | refine Kept.setCell ?_ (.inr GW123.out) _ | refine Kept.setCell ?_ (.inr GW124.out) _ | refine Kept.setCell ?_ (.inr GW127.out) _) | exact HK.out)).1) (fun k_ h_ => .inr h_)) (Kd.R_lt (by (with_reducible repeat (first | apply Kd.R_alloc | apply Kd.R_drewN | apply Kd.R_drew)); exact HO0_1.out))) (Kd.R_lt (by (with_reducible repeat (first | apply Kd.R_alloc | apply Kd.R_drewN | apply Kd.R_drew)); exact HO131.out))) (Kd.R_lt (by (with_reducible repeat (first | apply Kd.R_alloc | apply Kd.R_drewN | apply Kd.R_drew)); exact HO139.out))) (g := gb127) (o := .cells #[.int .i64 ((rd_T70 l0_1 t125).f0.f0), .int .i64 ((rd_T70 l0_1 t125).f0.f1), .string ((rd_T70 l0_1 t125).f1), .int .i64 ((rd_T70 l0_1 t125).f2)] 70 (0, 0)) (by (with_reducible repeat (first | refine blk_drewN ?_ _ | refine blk_drew ?_ | refine blk_alloc ?_ _)); exact BK127.out)) (below_size (by repeat (first | (with_reducible first | exact HB.out | apply below_alloc | apply pw_below_drewN | apply below_drew1 | refine below_set ?_ GE123.out | refine below_set ?_ GE124.out | refine below_set ?_ GE127.out) | exact HB.out))))
                  have n4_ := Aside0.mk (blk_below (g := gb123) (o := .cells #[.int .i64 t128, .slice Ao33 t129.length co33, .int .i64 t132, .int .i64 t133] 54 (0, 0)) (by (with_reducible repeat (first | refine blk_drewN ?_ _ | refine blk_drew ?_ | refine blk_alloc ?_ _)); exact BK123.out) hb)
                  have n5_ := Aside0.mk (blk_below (g := gb124) (o := .cells #[.int .i64 0, .slice none 0 0, .int .i64 0, .int .i64 0] 54 (0, 0)) (by (with_reducible repeat (first | refine blk_drewN ?_ _ | refine blk_drew ?_ | refine blk_alloc ?_ _)); exact BK124.out) hb)
                  have n6_ := Aside0.mk (blk_below (g := gb127) (o := .cells #[.int .i64 ((rd_T70 l0_1 t125).f0.f0), .int .i64 ((rd_T70 l0_1 t125).f0.f1), .string ((rd_T70 l0_1 t125).f1), .int .i64 ((rd_T70 l0_1 t125).f2)] 70 (0, 0)) (by (with_reducible repeat (first | refine blk_drewN ?_ _ | refine blk_drew ?_ | refine blk_alloc ?_ _)); exact BK127.out) hb)
                  have n7_ := Aside0.mk (Kept.below (S := (fun k_ => P0_1_ k_)) (by repeat (first | (with_reducible first | exact HK.out | apply Kept.alloc | apply Kept.drewN | apply Kept.drew | refine Kept.setCell ?_ (.inr GW123.out) _ | refine Kept.setCell ?_ (.inr GW124.out) _ | refine Kept.setCell ?_ (.inr GW127.out) _) | exact HK.out)) hb)
                  have n8_ := Aside0.mk (below_step (by repeat (first | (with_reducible first | exact HB.out | apply below_alloc | apply pw_below_drewN | apply below_drew1 | refine below_set ?_ GE123.out | refine below_set ?_ GE124.out | refine below_set ?_ GE127.out) | exact HB.out)) hb)
                  clear HO0_1
                  clear HO131
                  clear HO139
                  clear BK123
                  clear BK124
                  clear BK127
                  clear HK
                  clear HB
                  have HO0_1 := n0_
                  have HO131 := n1_
                  have HO139 := n2_
                  have HO142 := n3_
                  have BK123 := n4_
                  have BK124 := n5_
                  have BK127 := n6_
                  have HK := n7_
                  have HB := n8_
                  clear n0_ n1_ n2_ n3_ n4_ n5_ n6_ n7_ n8_
                  clear hb ho40
                  refine hK.out _ _ ⟨(blk_cell BK123.out 0).trans rfl, (blk_cell BK123.out 1).trans rfl, (blk_cell BK123.out 2).trans rfl, (blk_cell BK123.out 3).trans rfl, (blk_cell BK127.out 0).trans rfl, (blk_cell BK127.out 1).trans rfl, (blk_cell BK127.out 2).trans rfl, (blk_cell BK127.out 3).trans rfl⟩ (fun hHeld => ?_)
                  clear hK K
                  refine norm_ (a' := ?_) ?_ ?_
                  rotate_left
                  · show Act.put _ (some 36) _ = _
                    simp only [Act.put, List.setIfInBounds_toArray, List.set_cons_zero, List.set_cons_succ, i64_w, i32_w]
                    rfl
                  exact norm_ (by simp only [putAll, Act.put, List.setIfInBounds_toArray, List.set_cons_zero, List.set_cons_succ]) (hCont (v135, v138, v141) _ ⟨hHeld, (by (with_reducible repeat (first | apply Kd.R_alloc | apply Kd.R_drewN | apply Kd.R_drew)); exact Kd.R_mono HO0_1.out (fun _ hk => ⟨hk.1.1.1, ⟨hk.1.1.2.1, ⟨hk.1.2, ⟨hk.2, hk.1.1.2.2⟩⟩⟩⟩)), (by (with_reducible repeat (first | apply Kd.R_alloc | apply Kd.R_drewN | apply Kd.R_drew)); exact Kd.R_mono HO131.out (fun _ hk => ⟨hk.1.1.1, ⟨hk.1.1.2.1, ⟨hk.1.2, ⟨hk.2, hk.1.1.2.2⟩⟩⟩⟩)), (by (with_reducible repeat (first | apply Kd.R_alloc | apply Kd.R_drewN | apply Kd.R_drew)); exact Kd.R_mono HO139.out (fun _ hk => ⟨hk.1.1, ⟨hk.1.2.1, ⟨hk.1.2.2.1, ⟨hk.2, hk.1.2.2.2⟩⟩⟩⟩)), (by (with_reducible repeat (first | apply Kd.R_alloc | apply Kd.R_drewN | apply Kd.R_drew)); exact Kd.R_mono HO142.out (fun _ hk => ⟨hk.1.1.1.1.1, ⟨hk.1.1.1.2, ⟨hk.1.1.2, ⟨hk.1.2, hk.2⟩⟩⟩⟩)), (by (with_reducible repeat (first | refine blk_drewN ?_ _ | refine blk_drew ?_ | refine blk_alloc ?_ _)); exact BK123.out), (by (with_reducible repeat (first | refine blk_drewN ?_ _ | refine blk_drew ?_ | refine blk_alloc ?_ _)); exact BK124.out), (by (with_reducible repeat (first | refine blk_drewN ?_ _ | refine blk_drew ?_ | refine blk_alloc ?_ _)); exact BK127.out), (by repeat (first | (with_reducible first | exact HK.out | apply Kept.alloc | apply Kept.drewN | apply Kept.drew | refine Kept.setCell ?_ (.inr GW123.out) _ | refine Kept.setCell ?_ (.inr GW124.out) _ | refine Kept.setCell ?_ (.inr GW127.out) _) | exact HK.out)), (by repeat (first | (with_reducible first | exact HB.out | apply below_alloc | apply pw_below_drewN | apply below_drew1 | refine below_set ?_ GE123.out | refine below_set ?_ GE124.out | refine below_set ?_ GE127.out) | exact HB.out))⟩)
                · skip
                  refine Kd.R_lit_step k70 _ 70 ?hg (N := 36) ?hd (xs := ([(⟨(⟨(rd_T70 l0_1 t125).f0.f0, (rd_T70 l0_1 t125).f0.f1⟩ : S40), (rd_T70 l0_1 t125).f1, (rd_T70 l0_1 t125).f2⟩ : S70)] : List (S70))) (inner := [.int .i64 ((rd_T70 l0_1 t125).f0.f0), .int .i64 ((rd_T70 l0_1 t125).f0.f1), .string ((rd_T70 l0_1 t125).f1), .int .i64 ((rd_T70 l0_1 t125).f2)]) (ok := fun _ => True) (okp := fun _ => True) ?hr ?hp (fun _ hk => hk) trivial (Below.refl _ _) (Nat.le_refl _) (by simp) ?_; (case hd => rfl); (case hg => rfl); (case hr => first | (go_simp; done) | (go_simp; rfl)); (case hp => exact (Reps.c4 (show Kd.M k70 _ _ _ (⟨(⟨(rd_T70 l0_1 t125).f0.f0, (rd_T70 l0_1 t125).f0.f1⟩ : S40), (rd_T70 l0_1 t125).f1, (rd_T70 l0_1 t125).f2⟩ : S70) [.int .i64 ((rd_T70 l0_1 t125).f0.f0), .int .i64 ((rd_T70 l0_1 t125).f0.f1), .string ((rd_T70 l0_1 t125).f1), .int .i64 ((rd_T70 l0_1 t125).f2)] from (k70_mkM _ _ _ (⟨(⟨(rd_T70 l0_1 t125).f0.f0, (rd_T70 l0_1 t125).f0.f1⟩ : S40), (rd_T70 l0_1 t125).f1, (rd_T70 l0_1 t125).f2⟩ : S70) )) (Reps.none _ _)))
                  intro v141 w38 ho39 hb hg_ hnew_
                  clear hg_ hnew_
                  (first | rw [← Ny140.out] at ho39 | (simp only [Int.reduceToNat] at ho39; rw [← Ny140.out] at ho39))
                  have n0_ := Aside0.mk (Kd.R_elder' (by (with_reducible repeat (first | apply Kd.R_alloc | apply Kd.R_drewN | apply Kd.R_drew)); exact HO0_1.out) (Kd.R_base ho39) hb)
                  have n1_ := Aside0.mk (Kd.R_elder' (by (with_reducible repeat (first | apply Kd.R_alloc | apply Kd.R_drewN | apply Kd.R_drew)); exact HO131.out) (Kd.R_base ho39) hb)
                  have n2_ := Aside0.mk (Kd.R_elder' (by (with_reducible repeat (first | apply Kd.R_alloc | apply Kd.R_drewN | apply Kd.R_drew)); exact HO136.out) (Kd.R_base ho39) hb)
                  have n3_ := Aside0.mk (Kd.R_lower (Kd.R_newB (Kd.R_new' (Kd.R_new' (Kd.R_new' (Kd.R_newM (M := fun k_ => (P0_1_ k_ ∨ w.heap.size ≤ k_)) ho39 (by first | exact HK.out.1 | exact (show Kept w _ (fun k_ => P0_1_ k_) from by repeat (first | (with_reducible first | exact HK.out | apply Kept.alloc | apply Kept.drewN | apply Kept.drew | refine Kept.setCell ?_ (.inr GW123.out) _ | refine Kept.setCell ?_ (.inr GW124.out) _ | refine Kept.setCell ?_ (.inr GW127.out) _) | exact HK.out)).1) (fun k_ h_ => .inr h_)) (Kd.R_lt (by (with_reducible repeat (first | apply Kd.R_alloc | apply Kd.R_drewN | apply Kd.R_drew)); exact HO0_1.out))) (Kd.R_lt (by (with_reducible repeat (first | apply Kd.R_alloc | apply Kd.R_drewN | apply Kd.R_drew)); exact HO131.out))) (Kd.R_lt (by (with_reducible repeat (first | apply Kd.R_alloc | apply Kd.R_drewN | apply Kd.R_drew)); exact HO136.out))) (g := gb127) (o := .cells #[.int .i64 ((rd_T70 l0_1 t125).f0.f0), .int .i64 ((rd_T70 l0_1 t125).f0.f1), .string ((rd_T70 l0_1 t125).f1), .int .i64 ((rd_T70 l0_1 t125).f2)] 70 (0, 0)) (by (with_reducible repeat (first | refine blk_drewN ?_ _ | refine blk_drew ?_ | refine blk_alloc ?_ _)); exact BK127.out)) (below_size (by repeat (first | (with_reducible first | exact HB.out | apply below_alloc | apply pw_below_drewN | apply below_drew1 | refine below_set ?_ GE123.out | refine below_set ?_ GE124.out | refine below_set ?_ GE127.out) | exact HB.out))))
                  have n4_ := Aside0.mk (blk_below (g := gb123) (o := .cells #[.int .i64 t128, .slice Ao33 t129.length co33, .int .i64 t132, .int .i64 t133] 54 (0, 0)) (by (with_reducible repeat (first | refine blk_drewN ?_ _ | refine blk_drew ?_ | refine blk_alloc ?_ _)); exact BK123.out) hb)
                  have n5_ := Aside0.mk (blk_below (g := gb124) (o := .cells #[.int .i64 0, .slice none 0 0, .int .i64 0, .int .i64 0] 54 (0, 0)) (by (with_reducible repeat (first | refine blk_drewN ?_ _ | refine blk_drew ?_ | refine blk_alloc ?_ _)); exact BK124.out) hb)
                  have n6_ := Aside0.mk (blk_below (g := gb127) (o := .cells #[.int .i64 ((rd_T70 l0_1 t125).f0.f0), .int .i64 ((rd_T70 l0_1 t125).f0.f1), .string ((rd_T70 l0_1 t125).f1), .int .i64 ((rd_T70 l0_1 t125).f2)] 70 (0, 0)) (by (with_reducible repeat (first | refine blk_drewN ?_ _ | refine blk_drew ?_ | refine blk_alloc ?_ _)); exact BK127.out) hb)
                  have n7_ := Aside0.mk (Kept.below (S := (fun k_ => P0_1_ k_)) (by repeat (first | (with_reducible first | exact HK.out | apply Kept.alloc | apply Kept.drewN | apply Kept.drew | refine Kept.setCell ?_ (.inr GW123.out) _ | refine Kept.setCell ?_ (.inr GW124.out) _ | refine Kept.setCell ?_ (.inr GW127.out) _) | exact HK.out)) hb)
                  have n8_ := Aside0.mk (below_step (by repeat (first | (with_reducible first | exact HB.out | apply below_alloc | apply pw_below_drewN | apply below_drew1 | refine below_set ?_ GE123.out | refine below_set ?_ GE124.out | refine below_set ?_ GE127.out) | exact HB.out)) hb)
                  clear HO0_1
                  clear HO131
                  clear HO136
                  clear BK123
                  clear BK124
                  clear BK127
                  clear HK
                  clear HB
                  have HO0_1 := n0_
                  have HO131 := n1_
                  have HO136 := n2_
                  have HO142 := n3_
                  have BK123 := n4_
                  have BK124 := n5_
                  have BK127 := n6_
                  have HK := n7_
                  have HB := n8_
                  clear n0_ n1_ n2_ n3_ n4_ n5_ n6_ n7_ n8_
                  clear hb ho39
                  refine hK.out _ _ ⟨(blk_cell BK123.out 0).trans rfl, (blk_cell BK123.out 1).trans rfl, (blk_cell BK123.out 2).trans rfl, (blk_cell BK123.out 3).trans rfl, (blk_cell BK127.out 0).trans rfl, (blk_cell BK127.out 1).trans rfl, (blk_cell BK127.out 2).trans rfl, (blk_cell BK127.out 3).trans rfl⟩ (fun hHeld => ?_)
                  clear hK K
                  refine norm_ (a' := ?_) ?_ ?_
                  rotate_left
                  · show Act.put _ (some 36) _ = _
                    simp only [Act.put, List.setIfInBounds_toArray, List.set_cons_zero, List.set_cons_succ, i64_w, i32_w]
                    rfl
                  refine one_ (i := 3) (N := some 34) #[true, true, true, true, true, true, false, true, true, true, false, false, false, false] rfl rfl (one_of HT_.out (by kernel_rfl)) (by decide) (fun K hK => ?_)
                  refine Kd.R_append_rows_step k70 (w0 := w0) w0.heap.size (by rfl) (.tmp 31) (.tmp 33) 52 70 (.agg #[(.int .i64 0), (.int .i64 0), (.string ⟨#[]⟩), (.int .i64 0)]) 40 rfl Try.underlying52 info70 rfl (by decide) (by omega) v135 y134 t129 _ _ _ (fun k_ => (P0_1_ k_ ∨ w.heap.size ≤ k_) ∧ some k_ ≠ (.slice (some ad126) l0_1.length co19 : Value).ownBlock ∧ some k_ ≠ (.slice Ao33 t129.length co33 : Value).ownBlock ∧ some k_ ≠ (v141 : Value).ownBlock ∧ k_ ≠ gb127) (fun _ => False) rfl rfl ?aO ?aR (fun _ _ h => h) (fun _ h => h.elim) ?aF ?aB ?aS ?aL ?_
                  (case aR => repeat (first | exact (Kd.R_reads' HO131.out).2.2 | (with_reducible refine Kd.C_alloc ?_ _) | (with_reducible refine Kd.C_drewN ?_ _) | (with_reducible refine Kd.C_drew ?_)))
                  (case aB => exact (by repeat (first | (with_reducible first | exact HB.out | apply below_alloc | apply pw_below_drewN | apply below_drew1 | refine below_set ?_ GE123.out | refine below_set ?_ GE124.out | refine below_set ?_ GE127.out) | exact HB.out)))
                  (case aF => exact (fun k_ hk => ⟨(.inr (Nat.le_trans (by first | exact HK.out.1 | exact (show Kept w _ (fun k_ => P0_1_ k_) from by repeat (first | (with_reducible first | exact HK.out | apply Kept.alloc | apply Kept.drewN | apply Kept.drew | refine Kept.setCell ?_ (.inr GW123.out) _ | refine Kept.setCell ?_ (.inr GW124.out) _ | refine Kept.setCell ?_ (.inr GW127.out) _) | exact HK.out)).1) hk)), Kd.fresh' (Kd.R_lt (by (with_reducible repeat (first | apply Kd.R_alloc | apply Kd.R_drewN | apply Kd.R_drew)); exact HO0_1.out)) k_ hk, Kd.fresh' (Kd.R_lt (by (with_reducible repeat (first | apply Kd.R_alloc | apply Kd.R_drewN | apply Kd.R_drew)); exact HO131.out)) k_ hk, Kd.fresh' (Kd.R_lt (by (with_reducible repeat (first | apply Kd.R_alloc | apply Kd.R_drewN | apply Kd.R_drew)); exact HO142.out)) k_ hk, Kd.freshB (g := gb127) (o := .cells #[.int .i64 ((rd_T70 l0_1 t125).f0.f0), .int .i64 ((rd_T70 l0_1 t125).f0.f1), .string ((rd_T70 l0_1 t125).f1), .int .i64 ((rd_T70 l0_1 t125).f2)] 70 (0, 0)) (by (with_reducible repeat (first | refine blk_drewN ?_ _ | refine blk_drew ?_ | refine blk_alloc ?_ _)); exact BK127.out) k_ hk⟩))
                  (case aO => exact (by (with_reducible repeat (first | apply Kd.R_alloc | apply Kd.R_drewN | apply Kd.R_drew)); exact Kd.R_mono HO136.out (fun _ hk => ⟨hk.1.1.1.1.1, ⟨hk.1.1.1.2, ⟨hk.1.1.2, ⟨hk.2, hk.1.2⟩⟩⟩⟩)))
                  (case aS => exact (below_size (by repeat (first | (with_reducible first | exact HB.out | apply below_alloc | apply pw_below_drewN | apply below_drew1 | refine below_set ?_ GE123.out | refine below_set ?_ GE124.out | refine below_set ?_ GE127.out) | exact HB.out))))
                  (case aL => have := LMc17.out; omega)
                  intro v138 w40 ho hb hg hat
                  rw [← Ny137.out] at ho
                  have n0_ := Aside0.mk (Kd.R_after (ok := (fun k_ => (P0_1_ k_ ∨ w.heap.size ≤ k_) ∧ some k_ ≠ (.slice Ao33 t129.length co33 : Value).ownBlock ∧ some k_ ≠ (v141 : Value).ownBlock ∧ k_ ≠ gb127)) (by (with_reducible repeat (first | apply Kd.R_alloc | apply Kd.R_drewN | apply Kd.R_drew)); exact Kd.R_mono HO0_1.out (fun _ hk => ⟨⟨hk.1.1.1, ⟨hk.1.1.2.1, ⟨hk.2, hk.1.1.2.2⟩⟩⟩, hk.1.2⟩)) hg hat)
                  have n1_ := Aside0.mk (blk_grown (g := gb123) (o := .cells #[.int .i64 t128, .slice Ao33 t129.length co33, .int .i64 t132, .int .i64 t133] 54 (0, 0)) (by (with_reducible repeat (first | refine blk_drewN ?_ _ | refine blk_drew ?_ | refine blk_alloc ?_ _)); exact BK123.out) hg (Kd.R_ne HO136.out BK123.out (by decide)))
                  have n2_ := Aside0.mk (blk_grown (g := gb124) (o := .cells #[.int .i64 0, .slice none 0 0, .int .i64 0, .int .i64 0] 54 (0, 0)) (by (with_reducible repeat (first | refine blk_drewN ?_ _ | refine blk_drew ?_ | refine blk_alloc ?_ _)); exact BK124.out) hg (Kd.R_ne HO136.out BK124.out (by decide)))
                  have n3_ := Aside0.mk (blk_grown (g := gb127) (o := .cells #[.int .i64 ((rd_T70 l0_1 t125).f0.f0), .int .i64 ((rd_T70 l0_1 t125).f0.f1), .string ((rd_T70 l0_1 t125).f1), .int .i64 ((rd_T70 l0_1 t125).f2)] 70 (0, 0)) (by (with_reducible repeat (first | refine blk_drewN ?_ _ | refine blk_drew ?_ | refine blk_alloc ?_ _)); exact BK127.out) hg (Kd.R_away HO136.out (fun _ hk => hk.1.2)))
                  have n4_ := Aside0.mk (Kd.R_after (ok := (fun k_ => (P0_1_ k_ ∨ w.heap.size ≤ k_) ∧ some k_ ≠ (.slice (some ad126) l0_1.length co19 : Value).ownBlock ∧ some k_ ≠ (v141 : Value).ownBlock ∧ k_ ≠ gb127)) (by (with_reducible repeat (first | apply Kd.R_alloc | apply Kd.R_drewN | apply Kd.R_drew)); exact Kd.R_mono HO131.out (fun _ hk => ⟨⟨hk.1.1.1, ⟨hk.1.1.2.1, ⟨hk.2, hk.1.1.2.2⟩⟩⟩, hk.1.2⟩)) hg hat)
                  have n5_ := Aside0.mk (Kd.R_after (ok := (fun k_ => (P0_1_ k_ ∨ w.heap.size ≤ k_) ∧ some k_ ≠ (.slice (some ad126) l0_1.length co19 : Value).ownBlock ∧ some k_ ≠ (.slice Ao33 t129.length co33 : Value).ownBlock ∧ k_ ≠ gb127)) (by (with_reducible repeat (first | apply Kd.R_alloc | apply Kd.R_drewN | apply Kd.R_drew)); exact Kd.R_mono HO142.out (fun _ hk => ⟨⟨hk.1.1.1.1.1, ⟨hk.1.1.1.2, ⟨hk.1.1.2, hk.2⟩⟩⟩, hk.1.2⟩)) hg hat)
                  have n6_ := Aside0.mk (hb)
                  have n7_ := Aside0.mk (Kept.of_grown (S := (fun k_ => P0_1_ k_)) hg (by repeat (first | (with_reducible first | exact HK.out | apply Kept.alloc | apply Kept.drewN | apply Kept.drew | refine Kept.setCell ?_ (.inr GW123.out) _ | refine Kept.setCell ?_ (.inr GW124.out) _ | refine Kept.setCell ?_ (.inr GW127.out) _) | exact HK.out)) (fun k_ e_ => (HO136.out.1 k_ e_).1.1.1.1.1))
                  have n8_ := Aside0.mk (ho)
                  clear HO0_1
                  clear BK123
                  clear BK124
                  clear BK127
                  clear HO131
                  clear HO142
                  clear HB
                  clear HK
                  clear HO136
                  have HO0_1 := n0_
                  have BK123 := n1_
                  have BK124 := n2_
                  have BK127 := n3_
                  have HO131 := n4_
                  have HO142 := n5_
                  have HB := n6_
                  have HK := n7_
                  have HO139 := n8_
                  clear n0_ n1_ n2_ n3_ n4_ n5_ n6_ n7_ n8_
                  clear ho hb hg hat
                  refine hK.out _ _ ⟨(blk_cell BK123.out 0).trans rfl, (blk_cell BK123.out 1).trans rfl, (blk_cell BK123.out 2).trans rfl, (blk_cell BK123.out 3).trans rfl, (blk_cell BK127.out 0).trans rfl, (blk_cell BK127.out 1).trans rfl, (blk_cell BK127.out 2).trans rfl, (blk_cell BK127.out 3).trans rfl⟩ (fun hHeld => ?_)
                  clear hK K
                  refine norm_ (a' := ?_) ?_ ?_
                  rotate_left
                  · show Act.put _ (some 34) _ = _
                    simp only [Act.put, List.setIfInBounds_toArray, List.set_cons_zero, List.set_cons_succ, i64_w, i32_w]
                    rfl
                  exact norm_ (by simp only [putAll, Act.put, List.setIfInBounds_toArray, List.set_cons_zero, List.set_cons_succ]) (hCont (v135, v138, v141) _ ⟨hHeld, (by (with_reducible repeat (first | apply Kd.R_alloc | apply Kd.R_drewN | apply Kd.R_drew)); exact Kd.R_mono HO0_1.out (fun _ hk => ⟨hk.1.1, ⟨hk.1.2.1, ⟨hk.2, ⟨hk.1.2.2.1, hk.1.2.2.2⟩⟩⟩⟩)), (by (with_reducible repeat (first | apply Kd.R_alloc | apply Kd.R_drewN | apply Kd.R_drew)); exact Kd.R_mono HO131.out (fun _ hk => ⟨hk.1.1, ⟨hk.1.2.1, ⟨hk.2, ⟨hk.1.2.2.1, hk.1.2.2.2⟩⟩⟩⟩)), (by (with_reducible repeat (first | apply Kd.R_alloc | apply Kd.R_drewN | apply Kd.R_drew)); exact HO139.out), (by (with_reducible repeat (first | apply Kd.R_alloc | apply Kd.R_drewN | apply Kd.R_drew)); exact Kd.R_mono HO142.out (fun _ hk => ⟨hk.1.1, ⟨hk.1.2.1, ⟨hk.1.2.2.1, ⟨hk.2, hk.1.2.2.2⟩⟩⟩⟩)), (by (with_reducible repeat (first | refine blk_drewN ?_ _ | refine blk_drew ?_ | refine blk_alloc ?_ _)); exact BK123.out), (by (with_reducible repeat (first | refine blk_drewN ?_ _ | refine blk_drew ?_ | refine blk_alloc ?_ _)); exact BK124.out), (by (with_reducible repeat (first | refine blk_drewN ?_ _ | refine blk_drew ?_ | refine blk_alloc ?_ _)); exact BK127.out), (by repeat (first | (with_reducible first | exact HK.out | apply Kept.alloc | apply Kept.drewN | apply Kept.drew | refine Kept.setCell ?_ (.inr GW123.out) _ | refine Kept.setCell ?_ (.inr GW124.out) _ | refine Kept.setCell ?_ (.inr GW127.out) _) | exact HK.out)), (by repeat (first | (with_reducible first | exact HB.out | apply below_alloc | apply pw_below_drewN | apply below_drew1 | refine below_set ?_ GE123.out | refine below_set ?_ GE124.out | refine below_set ?_ GE127.out) | exact HB.out))⟩)
              · skip
                refine Kd.R_lit_step k70 _ 70 ?hg (N := 36) ?hd (xs := ([(⟨(⟨(rd_T70 l0_1 t125).f0.f0, (rd_T70 l0_1 t125).f0.f1⟩ : S40), (rd_T70 l0_1 t125).f1, (rd_T70 l0_1 t125).f2⟩ : S70)] : List (S70))) (inner := [.int .i64 ((rd_T70 l0_1 t125).f0.f0), .int .i64 ((rd_T70 l0_1 t125).f0.f1), .string ((rd_T70 l0_1 t125).f1), .int .i64 ((rd_T70 l0_1 t125).f2)]) (ok := fun _ => True) (okp := fun _ => True) ?hr ?hp (fun _ hk => hk) trivial (Below.refl _ _) (Nat.le_refl _) (by simp) ?_; (case hd => rfl); (case hg => rfl); (case hr => first | (go_simp; done) | (go_simp; rfl)); (case hp => exact (Reps.c4 (show Kd.M k70 _ _ _ (⟨(⟨(rd_T70 l0_1 t125).f0.f0, (rd_T70 l0_1 t125).f0.f1⟩ : S40), (rd_T70 l0_1 t125).f1, (rd_T70 l0_1 t125).f2⟩ : S70) [.int .i64 ((rd_T70 l0_1 t125).f0.f0), .int .i64 ((rd_T70 l0_1 t125).f0.f1), .string ((rd_T70 l0_1 t125).f1), .int .i64 ((rd_T70 l0_1 t125).f2)] from (k70_mkM _ _ _ (⟨(⟨(rd_T70 l0_1 t125).f0.f0, (rd_T70 l0_1 t125).f0.f1⟩ : S40), (rd_T70 l0_1 t125).f1, (rd_T70 l0_1 t125).f2⟩ : S70) )) (Reps.none _ _)))
                intro v141 w36 ho37 hb hg_ hnew_
                clear hg_ hnew_
                (first | rw [← Ny140.out] at ho37 | (simp only [Int.reduceToNat] at ho37; rw [← Ny140.out] at ho37))
                have n0_ := Aside0.mk (Kd.R_elder' (by (with_reducible repeat (first | apply Kd.R_alloc | apply Kd.R_drewN | apply Kd.R_drew)); exact HO0_1.out) (Kd.R_base ho37) hb)
                have n1_ := Aside0.mk (Kd.R_elder' (by (with_reducible repeat (first | apply Kd.R_alloc | apply Kd.R_drewN | apply Kd.R_drew)); exact HO131.out) (Kd.R_base ho37) hb)
                have n2_ := Aside0.mk (Kd.R_lower (Kd.R_newB (Kd.R_new' (Kd.R_new' (Kd.R_newM (M := fun k_ => (P0_1_ k_ ∨ w.heap.size ≤ k_)) ho37 (by first | exact HK.out.1 | exact (show Kept w _ (fun k_ => P0_1_ k_) from by repeat (first | (with_reducible first | exact HK.out | apply Kept.alloc | apply Kept.drewN | apply Kept.drew | refine Kept.setCell ?_ (.inr GW123.out) _ | refine Kept.setCell ?_ (.inr GW124.out) _ | refine Kept.setCell ?_ (.inr GW127.out) _) | exact HK.out)).1) (fun k_ h_ => .inr h_)) (Kd.R_lt (by (with_reducible repeat (first | apply Kd.R_alloc | apply Kd.R_drewN | apply Kd.R_drew)); exact HO0_1.out))) (Kd.R_lt (by (with_reducible repeat (first | apply Kd.R_alloc | apply Kd.R_drewN | apply Kd.R_drew)); exact HO131.out))) (g := gb127) (o := .cells #[.int .i64 ((rd_T70 l0_1 t125).f0.f0), .int .i64 ((rd_T70 l0_1 t125).f0.f1), .string ((rd_T70 l0_1 t125).f1), .int .i64 ((rd_T70 l0_1 t125).f2)] 70 (0, 0)) (by (with_reducible repeat (first | refine blk_drewN ?_ _ | refine blk_drew ?_ | refine blk_alloc ?_ _)); exact BK127.out)) (below_size (by repeat (first | (with_reducible first | exact HB.out | apply below_alloc | apply pw_below_drewN | apply below_drew1 | refine below_set ?_ GE123.out | refine below_set ?_ GE124.out | refine below_set ?_ GE127.out) | exact HB.out))))
                have n3_ := Aside0.mk (blk_below (g := gb123) (o := .cells #[.int .i64 t128, .slice Ao33 t129.length co33, .int .i64 t132, .int .i64 t133] 54 (0, 0)) (by (with_reducible repeat (first | refine blk_drewN ?_ _ | refine blk_drew ?_ | refine blk_alloc ?_ _)); exact BK123.out) hb)
                have n4_ := Aside0.mk (blk_below (g := gb124) (o := .cells #[.int .i64 0, .slice none 0 0, .int .i64 0, .int .i64 0] 54 (0, 0)) (by (with_reducible repeat (first | refine blk_drewN ?_ _ | refine blk_drew ?_ | refine blk_alloc ?_ _)); exact BK124.out) hb)
                have n5_ := Aside0.mk (blk_below (g := gb127) (o := .cells #[.int .i64 ((rd_T70 l0_1 t125).f0.f0), .int .i64 ((rd_T70 l0_1 t125).f0.f1), .string ((rd_T70 l0_1 t125).f1), .int .i64 ((rd_T70 l0_1 t125).f2)] 70 (0, 0)) (by (with_reducible repeat (first | refine blk_drewN ?_ _ | refine blk_drew ?_ | refine blk_alloc ?_ _)); exact BK127.out) hb)
                have n6_ := Aside0.mk (Kept.below (S := (fun k_ => P0_1_ k_)) (by repeat (first | (with_reducible first | exact HK.out | apply Kept.alloc | apply Kept.drewN | apply Kept.drew | refine Kept.setCell ?_ (.inr GW123.out) _ | refine Kept.setCell ?_ (.inr GW124.out) _ | refine Kept.setCell ?_ (.inr GW127.out) _) | exact HK.out)) hb)
                have n7_ := Aside0.mk (below_step (by repeat (first | (with_reducible first | exact HB.out | apply below_alloc | apply pw_below_drewN | apply below_drew1 | refine below_set ?_ GE123.out | refine below_set ?_ GE124.out | refine below_set ?_ GE127.out) | exact HB.out)) hb)
                clear HO0_1
                clear HO131
                clear BK123
                clear BK124
                clear BK127
                clear HK
                clear HB
                have HO0_1 := n0_
                have HO131 := n1_
                have HO142 := n2_
                have BK123 := n3_
                have BK124 := n4_
                have BK127 := n5_
                have HK := n6_
                have HB := n7_
                clear n0_ n1_ n2_ n3_ n4_ n5_ n6_ n7_
                clear hb ho37
                refine hK.out _ _ ⟨(blk_cell BK123.out 0).trans rfl, (blk_cell BK123.out 1).trans rfl, (blk_cell BK123.out 2).trans rfl, (blk_cell BK123.out 3).trans rfl, (blk_cell BK127.out 0).trans rfl, (blk_cell BK127.out 1).trans rfl, (blk_cell BK127.out 2).trans rfl, (blk_cell BK127.out 3).trans rfl⟩ (fun hHeld => ?_)
                clear hK K
                refine norm_ (a' := ?_) ?_ ?_
                rotate_left
                · show Act.put _ (some 36) _ = _
                  simp only [Act.put, List.setIfInBounds_toArray, List.set_cons_zero, List.set_cons_succ, i64_w, i32_w]
                  rfl
                refine one_ (i := 0) (N := some 31) #[true, true, true, false, true, true, false, true, true, true, false, false, false, false] rfl rfl (one_of HT_.out (by kernel_rfl)) (by decide) (fun K hK => ?_)
                refine Kd.R_lit_step k70 _ 70 ?hg (N := 31) ?hd (xs := ([] : List (S70))) (inner := []) (ok := fun _ => True) (okp := fun _ => True) ?hr ?hp (fun _ hk => hk) trivial (Below.refl _ _) (Nat.le_refl _) (by simp) ?_; (case hd => rfl); (case hg => rfl); (case hr => first | (go_simp; done) | (go_simp; rfl)); (case hp => exact (Reps.none _ _))
                intro v135 w38 ho39 hb hg_ hnew_
                clear hg_ hnew_
                (first | rw [← Ny134.out] at ho39 | (simp only [Int.reduceToNat] at ho39; rw [← Ny134.out] at ho39))
                have n0_ := Aside0.mk (Kd.R_elder' (by (with_reducible repeat (first | apply Kd.R_alloc | apply Kd.R_drewN | apply Kd.R_drew)); exact HO0_1.out) (Kd.R_base ho39) hb)
                have n1_ := Aside0.mk (Kd.R_elder' (by (with_reducible repeat (first | apply Kd.R_alloc | apply Kd.R_drewN | apply Kd.R_drew)); exact HO131.out) (Kd.R_base ho39) hb)
                have n2_ := Aside0.mk (Kd.R_elder' (by (with_reducible repeat (first | apply Kd.R_alloc | apply Kd.R_drewN | apply Kd.R_drew)); exact HO142.out) (Kd.R_base ho39) hb)
                have n3_ := Aside0.mk (Kd.R_lower (Kd.R_newB (Kd.R_new' (Kd.R_new' (Kd.R_new' (Kd.R_newM (M := fun k_ => (P0_1_ k_ ∨ w.heap.size ≤ k_)) ho39 (by first | exact HK.out.1 | exact (show Kept w _ (fun k_ => P0_1_ k_) from by repeat (first | (with_reducible first | exact HK.out | apply Kept.alloc | apply Kept.drewN | apply Kept.drew | refine Kept.setCell ?_ (.inr GW123.out) _ | refine Kept.setCell ?_ (.inr GW124.out) _ | refine Kept.setCell ?_ (.inr GW127.out) _) | exact HK.out)).1) (fun k_ h_ => .inr h_)) (Kd.R_lt (by (with_reducible repeat (first | apply Kd.R_alloc | apply Kd.R_drewN | apply Kd.R_drew)); exact HO0_1.out))) (Kd.R_lt (by (with_reducible repeat (first | apply Kd.R_alloc | apply Kd.R_drewN | apply Kd.R_drew)); exact HO131.out))) (Kd.R_lt (by (with_reducible repeat (first | apply Kd.R_alloc | apply Kd.R_drewN | apply Kd.R_drew)); exact HO142.out))) (g := gb127) (o := .cells #[.int .i64 ((rd_T70 l0_1 t125).f0.f0), .int .i64 ((rd_T70 l0_1 t125).f0.f1), .string ((rd_T70 l0_1 t125).f1), .int .i64 ((rd_T70 l0_1 t125).f2)] 70 (0, 0)) (by (with_reducible repeat (first | refine blk_drewN ?_ _ | refine blk_drew ?_ | refine blk_alloc ?_ _)); exact BK127.out)) (below_size (by repeat (first | (with_reducible first | exact HB.out | apply below_alloc | apply pw_below_drewN | apply below_drew1 | refine below_set ?_ GE123.out | refine below_set ?_ GE124.out | refine below_set ?_ GE127.out) | exact HB.out))))
                have n4_ := Aside0.mk (blk_below (g := gb123) (o := .cells #[.int .i64 t128, .slice Ao33 t129.length co33, .int .i64 t132, .int .i64 t133] 54 (0, 0)) (by (with_reducible repeat (first | refine blk_drewN ?_ _ | refine blk_drew ?_ | refine blk_alloc ?_ _)); exact BK123.out) hb)
                have n5_ := Aside0.mk (blk_below (g := gb124) (o := .cells #[.int .i64 0, .slice none 0 0, .int .i64 0, .int .i64 0] 54 (0, 0)) (by (with_reducible repeat (first | refine blk_drewN ?_ _ | refine blk_drew ?_ | refine blk_alloc ?_ _)); exact BK124.out) hb)
                have n6_ := Aside0.mk (blk_below (g := gb127) (o := .cells #[.int .i64 ((rd_T70 l0_1 t125).f0.f0), .int .i64 ((rd_T70 l0_1 t125).f0.f1), .string ((rd_T70 l0_1 t125).f1), .int .i64 ((rd_T70 l0_1 t125).f2)] 70 (0, 0)) (by (with_reducible repeat (first | refine blk_drewN ?_ _ | refine blk_drew ?_ | refine blk_alloc ?_ _)); exact BK127.out) hb)
                have n7_ := Aside0.mk (Kept.below (S := (fun k_ => P0_1_ k_)) (by repeat (first | (with_reducible first | exact HK.out | apply Kept.alloc | apply Kept.drewN | apply Kept.drew | refine Kept.setCell ?_ (.inr GW123.out) _ | refine Kept.setCell ?_ (.inr GW124.out) _ | refine Kept.setCell ?_ (.inr GW127.out) _) | exact HK.out)) hb)
                have n8_ := Aside0.mk (below_step (by repeat (first | (with_reducible first | exact HB.out | apply below_alloc | apply pw_below_drewN | apply below_drew1 | refine below_set ?_ GE123.out | refine below_set ?_ GE124.out | refine below_set ?_ GE127.out) | exact HB.out)) hb)
                clear HO0_1
                clear HO131
                clear HO142
                clear BK123
                clear BK124
                clear BK127
                clear HK
                clear HB
                have HO0_1 := n0_
                have HO131 := n1_
                have HO142 := n2_
                have HO136 := n3_
                have BK123 := n4_
                have BK124 := n5_
                have BK127 := n6_
                have HK := n7_
                have HB := n8_
                clear n0_ n1_ n2_ n3_ n4_ n5_ n6_ n7_ n8_
                clear hb ho39
                refine hK.out _ _ ⟨(blk_cell BK123.out 0).trans rfl, (blk_cell BK123.out 1).trans rfl, (blk_cell BK123.out 2).trans rfl, (blk_cell BK123.out 3).trans rfl, (blk_cell BK127.out 0).trans rfl, (blk_cell BK127.out 1).trans rfl, (blk_cell BK127.out 2).trans rfl, (blk_cell BK127.out 3).trans rfl⟩ (fun hHeld => ?_)
                clear hK K
                refine norm_ (a' := ?_) ?_ ?_
                rotate_left
                · show Act.put _ (some 31) _ = _
                  simp only [Act.put, List.setIfInBounds_toArray, List.set_cons_zero, List.set_cons_succ, i64_w, i32_w]
                  rfl
                refine one_ (i := 3) (N := some 34) #[true, true, true, true, true, true, false, true, true, true, false, false, false, false] rfl rfl (one_of HT_.out (by kernel_rfl)) (by decide) (fun K hK => ?_)
                refine Kd.R_append_rows_step k70 (w0 := w0) w0.heap.size (by rfl) (.tmp 31) (.tmp 33) 52 70 (.agg #[(.int .i64 0), (.int .i64 0), (.string ⟨#[]⟩), (.int .i64 0)]) 40 rfl Try.underlying52 info70 rfl (by decide) (by omega) v135 y134 t129 _ _ _ (fun k_ => (P0_1_ k_ ∨ w.heap.size ≤ k_) ∧ some k_ ≠ (.slice (some ad126) l0_1.length co19 : Value).ownBlock ∧ some k_ ≠ (.slice Ao33 t129.length co33 : Value).ownBlock ∧ some k_ ≠ (v141 : Value).ownBlock ∧ k_ ≠ gb127) (fun _ => False) rfl rfl ?aO ?aR (fun _ _ h => h) (fun _ h => h.elim) ?aF ?aB ?aS ?aL ?_
                (case aR => repeat (first | exact (Kd.R_reads' HO131.out).2.2 | (with_reducible refine Kd.C_alloc ?_ _) | (with_reducible refine Kd.C_drewN ?_ _) | (with_reducible refine Kd.C_drew ?_)))
                (case aB => exact (by repeat (first | (with_reducible first | exact HB.out | apply below_alloc | apply pw_below_drewN | apply below_drew1 | refine below_set ?_ GE123.out | refine below_set ?_ GE124.out | refine below_set ?_ GE127.out) | exact HB.out)))
                (case aF => exact (fun k_ hk => ⟨(.inr (Nat.le_trans (by first | exact HK.out.1 | exact (show Kept w _ (fun k_ => P0_1_ k_) from by repeat (first | (with_reducible first | exact HK.out | apply Kept.alloc | apply Kept.drewN | apply Kept.drew | refine Kept.setCell ?_ (.inr GW123.out) _ | refine Kept.setCell ?_ (.inr GW124.out) _ | refine Kept.setCell ?_ (.inr GW127.out) _) | exact HK.out)).1) hk)), Kd.fresh' (Kd.R_lt (by (with_reducible repeat (first | apply Kd.R_alloc | apply Kd.R_drewN | apply Kd.R_drew)); exact HO0_1.out)) k_ hk, Kd.fresh' (Kd.R_lt (by (with_reducible repeat (first | apply Kd.R_alloc | apply Kd.R_drewN | apply Kd.R_drew)); exact HO131.out)) k_ hk, Kd.fresh' (Kd.R_lt (by (with_reducible repeat (first | apply Kd.R_alloc | apply Kd.R_drewN | apply Kd.R_drew)); exact HO142.out)) k_ hk, Kd.freshB (g := gb127) (o := .cells #[.int .i64 ((rd_T70 l0_1 t125).f0.f0), .int .i64 ((rd_T70 l0_1 t125).f0.f1), .string ((rd_T70 l0_1 t125).f1), .int .i64 ((rd_T70 l0_1 t125).f2)] 70 (0, 0)) (by (with_reducible repeat (first | refine blk_drewN ?_ _ | refine blk_drew ?_ | refine blk_alloc ?_ _)); exact BK127.out) k_ hk⟩))
                (case aO => exact (by (with_reducible repeat (first | apply Kd.R_alloc | apply Kd.R_drewN | apply Kd.R_drew)); exact Kd.R_mono HO136.out (fun _ hk => ⟨hk.1.1.1.1.1, ⟨hk.1.1.1.2, ⟨hk.1.1.2, ⟨hk.1.2, hk.2⟩⟩⟩⟩)))
                (case aS => exact (below_size (by repeat (first | (with_reducible first | exact HB.out | apply below_alloc | apply pw_below_drewN | apply below_drew1 | refine below_set ?_ GE123.out | refine below_set ?_ GE124.out | refine below_set ?_ GE127.out) | exact HB.out))))
                (case aL => have := LMc17.out; omega)
                intro v138 w40 ho hb hg hat
                rw [← Ny137.out] at ho
                have n0_ := Aside0.mk (Kd.R_after (ok := (fun k_ => (P0_1_ k_ ∨ w.heap.size ≤ k_) ∧ some k_ ≠ (.slice Ao33 t129.length co33 : Value).ownBlock ∧ some k_ ≠ (v141 : Value).ownBlock ∧ k_ ≠ gb127)) (by (with_reducible repeat (first | apply Kd.R_alloc | apply Kd.R_drewN | apply Kd.R_drew)); exact Kd.R_mono HO0_1.out (fun _ hk => ⟨⟨hk.1.1.1, ⟨hk.1.1.2.1, ⟨hk.1.2, hk.1.1.2.2⟩⟩⟩, hk.2⟩)) hg hat)
                have n1_ := Aside0.mk (blk_grown (g := gb123) (o := .cells #[.int .i64 t128, .slice Ao33 t129.length co33, .int .i64 t132, .int .i64 t133] 54 (0, 0)) (by (with_reducible repeat (first | refine blk_drewN ?_ _ | refine blk_drew ?_ | refine blk_alloc ?_ _)); exact BK123.out) hg (Kd.R_ne HO136.out BK123.out (by decide)))
                have n2_ := Aside0.mk (blk_grown (g := gb124) (o := .cells #[.int .i64 0, .slice none 0 0, .int .i64 0, .int .i64 0] 54 (0, 0)) (by (with_reducible repeat (first | refine blk_drewN ?_ _ | refine blk_drew ?_ | refine blk_alloc ?_ _)); exact BK124.out) hg (Kd.R_ne HO136.out BK124.out (by decide)))
                have n3_ := Aside0.mk (blk_grown (g := gb127) (o := .cells #[.int .i64 ((rd_T70 l0_1 t125).f0.f0), .int .i64 ((rd_T70 l0_1 t125).f0.f1), .string ((rd_T70 l0_1 t125).f1), .int .i64 ((rd_T70 l0_1 t125).f2)] 70 (0, 0)) (by (with_reducible repeat (first | refine blk_drewN ?_ _ | refine blk_drew ?_ | refine blk_alloc ?_ _)); exact BK127.out) hg (Kd.R_away HO136.out (fun _ hk => hk.2)))
                have n4_ := Aside0.mk (Kd.R_after (ok := (fun k_ => (P0_1_ k_ ∨ w.heap.size ≤ k_) ∧ some k_ ≠ (.slice (some ad126) l0_1.length co19 : Value).ownBlock ∧ some k_ ≠ (v141 : Value).ownBlock ∧ k_ ≠ gb127)) (by (with_reducible repeat (first | apply Kd.R_alloc | apply Kd.R_drewN | apply Kd.R_drew)); exact Kd.R_mono HO131.out (fun _ hk => ⟨⟨hk.1.1.1, ⟨hk.1.1.2.1, ⟨hk.1.2, hk.1.1.2.2⟩⟩⟩, hk.2⟩)) hg hat)
                have n5_ := Aside0.mk (Kd.R_after (ok := (fun k_ => (P0_1_ k_ ∨ w.heap.size ≤ k_) ∧ some k_ ≠ (.slice (some ad126) l0_1.length co19 : Value).ownBlock ∧ some k_ ≠ (.slice Ao33 t129.length co33 : Value).ownBlock ∧ k_ ≠ gb127)) (by (with_reducible repeat (first | apply Kd.R_alloc | apply Kd.R_drewN | apply Kd.R_drew)); exact Kd.R_mono HO142.out (fun _ hk => ⟨⟨hk.1.1.1.1.1, ⟨hk.1.1.1.2, ⟨hk.1.1.2, hk.1.2⟩⟩⟩, hk.2⟩)) hg hat)
                have n6_ := Aside0.mk (hb)
                have n7_ := Aside0.mk (Kept.of_grown (S := (fun k_ => P0_1_ k_)) hg (by repeat (first | (with_reducible first | exact HK.out | apply Kept.alloc | apply Kept.drewN | apply Kept.drew | refine Kept.setCell ?_ (.inr GW123.out) _ | refine Kept.setCell ?_ (.inr GW124.out) _ | refine Kept.setCell ?_ (.inr GW127.out) _) | exact HK.out)) (fun k_ e_ => (HO136.out.1 k_ e_).1.1.1.1.1))
                have n8_ := Aside0.mk (ho)
                clear HO0_1
                clear BK123
                clear BK124
                clear BK127
                clear HO131
                clear HO142
                clear HB
                clear HK
                clear HO136
                have HO0_1 := n0_
                have BK123 := n1_
                have BK124 := n2_
                have BK127 := n3_
                have HO131 := n4_
                have HO142 := n5_
                have HB := n6_
                have HK := n7_
                have HO139 := n8_
                clear n0_ n1_ n2_ n3_ n4_ n5_ n6_ n7_ n8_
                clear ho hb hg hat
                refine hK.out _ _ ⟨(blk_cell BK123.out 0).trans rfl, (blk_cell BK123.out 1).trans rfl, (blk_cell BK123.out 2).trans rfl, (blk_cell BK123.out 3).trans rfl, (blk_cell BK127.out 0).trans rfl, (blk_cell BK127.out 1).trans rfl, (blk_cell BK127.out 2).trans rfl, (blk_cell BK127.out 3).trans rfl⟩ (fun hHeld => ?_)
                clear hK K
                refine norm_ (a' := ?_) ?_ ?_
                rotate_left
                · show Act.put _ (some 34) _ = _
                  simp only [Act.put, List.setIfInBounds_toArray, List.set_cons_zero, List.set_cons_succ, i64_w, i32_w]
                  rfl
                exact norm_ (by simp only [putAll, Act.put, List.setIfInBounds_toArray, List.set_cons_zero, List.set_cons_succ]) (hCont (v135, v138, v141) _ ⟨hHeld, (by (with_reducible repeat (first | apply Kd.R_alloc | apply Kd.R_drewN | apply Kd.R_drew)); exact Kd.R_mono HO0_1.out (fun _ hk => ⟨hk.1.1, ⟨hk.1.2.1, ⟨hk.2, ⟨hk.1.2.2.1, hk.1.2.2.2⟩⟩⟩⟩)), (by (with_reducible repeat (first | apply Kd.R_alloc | apply Kd.R_drewN | apply Kd.R_drew)); exact Kd.R_mono HO131.out (fun _ hk => ⟨hk.1.1, ⟨hk.1.2.1, ⟨hk.2, ⟨hk.1.2.2.1, hk.1.2.2.2⟩⟩⟩⟩)), (by (with_reducible repeat (first | apply Kd.R_alloc | apply Kd.R_drewN | apply Kd.R_drew)); exact HO139.out), (by (with_reducible repeat (first | apply Kd.R_alloc | apply Kd.R_drewN | apply Kd.R_drew)); exact Kd.R_mono HO142.out (fun _ hk => ⟨hk.1.1, ⟨hk.1.2.1, ⟨hk.1.2.2.1, ⟨hk.2, hk.1.2.2.2⟩⟩⟩⟩)), (by (with_reducible repeat (first | refine blk_drewN ?_ _ | refine blk_drew ?_ | refine blk_alloc ?_ _)); exact BK123.out), (by (with_reducible repeat (first | refine blk_drewN ?_ _ | refine blk_drew ?_ | refine blk_alloc ?_ _)); exact BK124.out), (by (with_reducible repeat (first | refine blk_drewN ?_ _ | refine blk_drew ?_ | refine blk_alloc ?_ _)); exact BK127.out), (by repeat (first | (with_reducible first | exact HK.out | apply Kept.alloc | apply Kept.drewN | apply Kept.drew | refine Kept.setCell ?_ (.inr GW123.out) _ | refine Kept.setCell ?_ (.inr GW124.out) _ | refine Kept.setCell ?_ (.inr GW127.out) _) | exact HK.out)), (by repeat (first | (with_reducible first | exact HB.out | apply below_alloc | apply pw_below_drewN | apply below_drew1 | refine below_set ?_ GE123.out | refine below_set ?_ GE124.out | refine below_set ?_ GE127.out) | exact HB.out))⟩)
            rintro ⟨v135, v138, v141⟩ w41 ⟨hS_, h0_, h1_, h2_, h3_, h4_, h5_, h6_, h7_, h8_⟩
            have n0_ : Aside0 (Kd.R k70 70 w41 w0.heap.size (fun k_ => (P0_1_ k_ ∨ w.heap.size ≤ k_) ∧ some k_ ≠ (.slice Ao33 t129.length co33 : Value).ownBlock ∧ some k_ ≠ (v138 : Value).ownBlock ∧ some k_ ≠ (v141 : Value).ownBlock ∧ k_ ≠ gb127) (.slice (some ad126) l0_1.length co19) l0_1) := ⟨h0_⟩
            have n1_ : Aside0 (Kd.R k70 70 w41 w0.heap.size (fun k_ => (P0_1_ k_ ∨ w.heap.size ≤ k_) ∧ some k_ ≠ (.slice (some ad126) l0_1.length co19 : Value).ownBlock ∧ some k_ ≠ (v138 : Value).ownBlock ∧ some k_ ≠ (v141 : Value).ownBlock ∧ k_ ≠ gb127) (.slice Ao33 t129.length co33) t129) := ⟨h1_⟩
            have n2_ : Aside0 (Kd.R k70 70 w41 w0.heap.size (fun k_ => (P0_1_ k_ ∨ w.heap.size ≤ k_) ∧ some k_ ≠ (.slice (some ad126) l0_1.length co19 : Value).ownBlock ∧ some k_ ≠ (.slice Ao33 t129.length co33 : Value).ownBlock ∧ some k_ ≠ (v141 : Value).ownBlock ∧ k_ ≠ gb127) v138 y137) := ⟨h2_⟩
            have n3_ : Aside0 (Kd.R k70 70 w41 w0.heap.size (fun k_ => (P0_1_ k_ ∨ w.heap.size ≤ k_) ∧ some k_ ≠ (.slice (some ad126) l0_1.length co19 : Value).ownBlock ∧ some k_ ≠ (.slice Ao33 t129.length co33 : Value).ownBlock ∧ some k_ ≠ (v138 : Value).ownBlock ∧ k_ ≠ gb127) v141 y140) := ⟨h3_⟩
            have n4_ : Aside0 (w41.heap[gb123]? = some (.cells #[.int .i64 t128, .slice Ao33 t129.length co33, .int .i64 t132, .int .i64 t133] 54 (0, 0))) := ⟨h4_⟩
            have n5_ : Aside0 (w41.heap[gb124]? = some (.cells #[.int .i64 0, .slice none 0 0, .int .i64 0, .int .i64 0] 54 (0, 0))) := ⟨h5_⟩
            have n6_ : Aside0 (w41.heap[gb127]? = some (.cells #[.int .i64 ((rd_T70 l0_1 t125).f0.f0), .int .i64 ((rd_T70 l0_1 t125).f0.f1), .string ((rd_T70 l0_1 t125).f1), .int .i64 ((rd_T70 l0_1 t125).f2)] 70 (0, 0))) := ⟨h6_⟩
            have n7_ : Aside0 (Kept w w41 (fun k_ => P0_1_ k_)) := ⟨h7_⟩
            have n8_ : Aside0 (Below w0.heap.size w0 w41) := ⟨h8_⟩
            clear HO0_1
            clear HO131
            clear BK123
            clear BK124
            clear BK127
            clear HK
            clear HB
            clear h0_ h1_ h2_ h3_ h4_ h5_ h6_ h7_ h8_
            have HO0_1 := n0_
            have HO131 := n1_
            have HO139 := n2_
            have HO142 := n3_
            have BK123 := n4_
            have BK124 := n5_
            have BK127 := n6_
            have HK := n7_
            have HB := n8_
            clear n0_ n1_ n2_ n3_ n4_ n5_ n6_ n7_ n8_
            have hHeld : w41.cell? ⟨gb123, 0, none⟩ = some (.int .i64 t128) ∧ w41.cell? ⟨gb123, 1, none⟩ = some (.slice Ao33 t129.length co33) ∧ w41.cell? ⟨gb123, 2, none⟩ = some (.int .i64 t132) ∧ w41.cell? ⟨gb123, 3, none⟩ = some (.int .i64 t133) ∧ w41.cell? ⟨gb127, 0, none⟩ = some (.int .i64 ((rd_T70 l0_1 t125).f0.f0)) ∧ w41.cell? ⟨gb127, 1, none⟩ = some (.int .i64 ((rd_T70 l0_1 t125).f0.f1)) ∧ w41.cell? ⟨gb127, 2, none⟩ = some (.string ((rd_T70 l0_1 t125).f1)) ∧ w41.cell? ⟨gb127, 3, none⟩ = some (.int .i64 ((rd_T70 l0_1 t125).f2)) := hS_
            obtain ⟨Ao43, co43, eo43⟩ := Kd.R_slice HO142.out
            (first | subst eo43 | (injection eo43 with f1_ f2_ f3_; have f4_ := f1_.symm; have f5_ := f3_.symm; clear f1_ f2_ f3_; subst f4_; subst f5_))
            refine norm_ (a' := ?_) ?_ ?_
            rotate_left
            · simp only [putAll, Act.put, List.setIfInBounds_toArray, List.set_cons_zero, List.set_cons_succ]
              rfl
            refine one_ (i := 6) (N := some 37) #[true, true, true, true, true, true, true, true, true, true, false, false, false, false] rfl rfl (one_of HT_.out (by kernel_rfl)) (by decide) (fun K hK => ?_)
            refine Kd.R_append_rows_step k70 (w0 := w0) w0.heap.size (by rfl) (.tmp 34) (.tmp 36) 52 70 (.agg #[(.int .i64 0), (.int .i64 0), (.string ⟨#[]⟩), (.int .i64 0)]) 40 rfl Try.underlying52 info70 rfl (by decide) (by omega) v138 y137 y140 _ _ _ (fun k_ => (P0_1_ k_ ∨ w.heap.size ≤ k_) ∧ some k_ ≠ (.slice (some ad126) l0_1.length co19 : Value).ownBlock ∧ some k_ ≠ (.slice Ao33 t129.length co33 : Value).ownBlock ∧ some k_ ≠ (.slice Ao43 y140.length co43 : Value).ownBlock ∧ k_ ≠ gb127) (fun _ => False) rfl rfl ?aO ?aR (fun _ _ h => h) (fun _ h => h.elim) ?aF ?aB ?aS ?aL ?_
            (case aR => repeat (first | exact (Kd.R_reads' HO142.out).2.2 | (with_reducible refine Kd.C_alloc ?_ _) | (with_reducible refine Kd.C_drewN ?_ _) | (with_reducible refine Kd.C_drew ?_)))
            (case aB => exact (by repeat (first | (with_reducible first | exact HB.out | apply below_alloc | apply pw_below_drewN | apply below_drew1 | refine below_set ?_ GE123.out | refine below_set ?_ GE124.out | refine below_set ?_ GE127.out) | exact HB.out)))
            (case aF => exact (fun k_ hk => ⟨(.inr (Nat.le_trans (by first | exact HK.out.1 | exact (show Kept w _ (fun k_ => P0_1_ k_) from by repeat (first | (with_reducible first | exact HK.out | apply Kept.alloc | apply Kept.drewN | apply Kept.drew | refine Kept.setCell ?_ (.inr GW123.out) _ | refine Kept.setCell ?_ (.inr GW124.out) _ | refine Kept.setCell ?_ (.inr GW127.out) _) | exact HK.out)).1) hk)), Kd.fresh' (Kd.R_lt (by (with_reducible repeat (first | apply Kd.R_alloc | apply Kd.R_drewN | apply Kd.R_drew)); exact HO0_1.out)) k_ hk, Kd.fresh' (Kd.R_lt (by (with_reducible repeat (first | apply Kd.R_alloc | apply Kd.R_drewN | apply Kd.R_drew)); exact HO131.out)) k_ hk, Kd.fresh' (Kd.R_lt (by (with_reducible repeat (first | apply Kd.R_alloc | apply Kd.R_drewN | apply Kd.R_drew)); exact HO142.out)) k_ hk, Kd.freshB (g := gb127) (o := .cells #[.int .i64 ((rd_T70 l0_1 t125).f0.f0), .int .i64 ((rd_T70 l0_1 t125).f0.f1), .string ((rd_T70 l0_1 t125).f1), .int .i64 ((rd_T70 l0_1 t125).f2)] 70 (0, 0)) (by (with_reducible repeat (first | refine blk_drewN ?_ _ | refine blk_drew ?_ | refine blk_alloc ?_ _)); exact BK127.out) k_ hk⟩))
            (case aO => exact (by (with_reducible repeat (first | apply Kd.R_alloc | apply Kd.R_drewN | apply Kd.R_drew)); exact HO139.out))
            (case aS => exact (below_size (by repeat (first | (with_reducible first | exact HB.out | apply below_alloc | apply pw_below_drewN | apply below_drew1 | refine below_set ?_ GE123.out | refine below_set ?_ GE124.out | refine below_set ?_ GE127.out) | exact HB.out))))
            (case aL => have := LMc18.out; omega)
            intro v144 w42 ho hb hg hat
            rw [← Ny143.out] at ho
            have n0_ := Aside0.mk (Kd.R_after (ok := (fun k_ => (P0_1_ k_ ∨ w.heap.size ≤ k_) ∧ some k_ ≠ (.slice Ao33 t129.length co33 : Value).ownBlock ∧ some k_ ≠ (.slice Ao43 y140.length co43 : Value).ownBlock ∧ k_ ≠ gb127)) (by (with_reducible repeat (first | apply Kd.R_alloc | apply Kd.R_drewN | apply Kd.R_drew)); exact Kd.R_mono HO0_1.out (fun _ hk => ⟨⟨hk.1, ⟨hk.2.1, ⟨hk.2.2.2.1, hk.2.2.2.2⟩⟩⟩, hk.2.2.1⟩)) hg hat)
            have n1_ := Aside0.mk (blk_grown (g := gb123) (o := .cells #[.int .i64 t128, .slice Ao33 t129.length co33, .int .i64 t132, .int .i64 t133] 54 (0, 0)) (by (with_reducible repeat (first | refine blk_drewN ?_ _ | refine blk_drew ?_ | refine blk_alloc ?_ _)); exact BK123.out) hg (Kd.R_ne HO139.out BK123.out (by decide)))
            have n2_ := Aside0.mk (blk_grown (g := gb124) (o := .cells #[.int .i64 0, .slice none 0 0, .int .i64 0, .int .i64 0] 54 (0, 0)) (by (with_reducible repeat (first | refine blk_drewN ?_ _ | refine blk_drew ?_ | refine blk_alloc ?_ _)); exact BK124.out) hg (Kd.R_ne HO139.out BK124.out (by decide)))
            have n3_ := Aside0.mk (blk_grown (g := gb127) (o := .cells #[.int .i64 ((rd_T70 l0_1 t125).f0.f0), .int .i64 ((rd_T70 l0_1 t125).f0.f1), .string ((rd_T70 l0_1 t125).f1), .int .i64 ((rd_T70 l0_1 t125).f2)] 70 (0, 0)) (by (with_reducible repeat (first | refine blk_drewN ?_ _ | refine blk_drew ?_ | refine blk_alloc ?_ _)); exact BK127.out) hg (Kd.R_away HO139.out (fun _ hk => hk.2.2.2.2)))
            have n4_ := Aside0.mk (Kd.R_after (ok := (fun k_ => (P0_1_ k_ ∨ w.heap.size ≤ k_) ∧ some k_ ≠ (.slice (some ad126) l0_1.length co19 : Value).ownBlock ∧ some k_ ≠ (.slice Ao43 y140.length co43 : Value).ownBlock ∧ k_ ≠ gb127)) (by (with_reducible repeat (first | apply Kd.R_alloc | apply Kd.R_drewN | apply Kd.R_drew)); exact Kd.R_mono HO131.out (fun _ hk => ⟨⟨hk.1, ⟨hk.2.1, ⟨hk.2.2.2.1, hk.2.2.2.2⟩⟩⟩, hk.2.2.1⟩)) hg hat)
            have n5_ := Aside0.mk (Kd.R_after (ok := (fun k_ => (P0_1_ k_ ∨ w.heap.size ≤ k_) ∧ some k_ ≠ (.slice (some ad126) l0_1.length co19 : Value).ownBlock ∧ some k_ ≠ (.slice Ao33 t129.length co33 : Value).ownBlock ∧ k_ ≠ gb127)) (by (with_reducible repeat (first | apply Kd.R_alloc | apply Kd.R_drewN | apply Kd.R_drew)); exact Kd.R_mono HO142.out (fun _ hk => ⟨⟨hk.1, ⟨hk.2.1, ⟨hk.2.2.1, hk.2.2.2.2⟩⟩⟩, hk.2.2.2.1⟩)) hg hat)
            have n6_ := Aside0.mk (hb)
            have n7_ := Aside0.mk (Kept.of_grown (S := (fun k_ => P0_1_ k_)) hg (by repeat (first | (with_reducible first | exact HK.out | apply Kept.alloc | apply Kept.drewN | apply Kept.drew | refine Kept.setCell ?_ (.inr GW123.out) _ | refine Kept.setCell ?_ (.inr GW124.out) _ | refine Kept.setCell ?_ (.inr GW127.out) _) | exact HK.out)) (fun k_ e_ => (HO139.out.1 k_ e_).1))
            have n8_ := Aside0.mk (ho)
            clear HO0_1
            clear BK123
            clear BK124
            clear BK127
            clear HO131
            clear HO142
            clear HB
            clear HK
            clear HO139
            have HO0_1 := n0_
            have BK123 := n1_
            have BK124 := n2_
            have BK127 := n3_
            have HO131 := n4_
            have HO142 := n5_
            have HB := n6_
            have HK := n7_
            have HO145 := n8_
            clear n0_ n1_ n2_ n3_ n4_ n5_ n6_ n7_ n8_
            clear ho hb hg hat
            obtain ⟨Ao44, co44, eo44⟩ := Kd.R_slice HO145.out
            (first | subst eo44 | (injection eo44 with f1_ f2_ f3_; have f4_ := f1_.symm; have f5_ := f3_.symm; clear f1_ f2_ f3_; subst f4_; subst f5_))
            refine hK.out _ _ ⟨(blk_cell BK123.out 0).trans rfl, (blk_cell BK123.out 1).trans rfl, (blk_cell BK123.out 2).trans rfl, (blk_cell BK123.out 3).trans rfl, (blk_cell BK127.out 0).trans rfl, (blk_cell BK127.out 1).trans rfl, (blk_cell BK127.out 2).trans rfl, (blk_cell BK127.out 3).trans rfl⟩ (fun hHeld => ?_)
            clear hK K
            refine norm_ (a' := ?_) ?_ ?_
            rotate_left
            · show Act.put _ (some 37) _ = _
              simp only [Act.put, List.setIfInBounds_toArray, List.set_cons_zero, List.set_cons_succ, i64_w, i32_w]
              rfl
            refine pure_ (i := 10) (N := some 41) (v := ?_) (a' := ?_) #[true, true, true, true, true, true, true, true, true, true, true, false, false, false] rfl rfl (any_of HT_.out (by kernel_rfl)) (fun _ _ _ h => h) (Or.inl ⟨by rfl, ?_⟩) ?_ ?_
            rotate_left
            · intro w'
              go_simp
              with_reducible rfl
            rotate_left
            · simp only [Act.put, List.setIfInBounds_toArray, List.set_cons_zero, List.set_cons_succ, i64_w, i32_w]
              rfl
            refine last_ (i := 11) (N := none) #[true, true, true, true, true, true, true, true, true, true, true, true, false, false] rfl rfl (one_of HT_.out (by kernel_rfl)) (by decide) (fun K hK => ?_)
            have hs45 : w42.cell? ⟨gb123, 1, none⟩ = some (.slice Ao33 t129.length co33) := (blk_cell BK123.out 1).trans rfl
            have hfs45 := blk_frozen BK123.out 1
            have hns45_1 := NB124_123.out
            have hns45_2 := NB127_123.out
            have hms45_1 := NB123_124.out
            have hms45_2 := NB123_127.out
            refine skip_ (w1 := ?_) (by rfl) rfl ?_ ?_
            rotate_left
            · go_simp
              rfl
            refine hK.out _ _ ?_
            clear hK K
            refine pure_ (i := 12) (N := some 42) (v := ?_) (a' := ?_) #[true, true, true, true, true, true, true, true, true, true, true, true, true, false] rfl rfl (any_of HT_.out (by kernel_rfl)) (fun _ _ _ h => h) (Or.inl ⟨by rfl, ?_⟩) ?_ ?_
            rotate_left
            · intro w'
              go_simp
              with_reducible rfl
            rotate_left
            · simp only [Act.put, List.setIfInBounds_toArray, List.set_cons_zero, List.set_cons_succ, i64_w, i32_w]
              rfl
            refine last_ (i := 13) (N := none) #[true, true, true, true, true, true, true, true, true, true, true, true, true, true] rfl rfl (one_of HT_.out (by kernel_rfl)) (by decide) (fun K hK => ?_)
            have hs46 : w42.cell? ⟨gb123, 2, none⟩ = some (.int .i64 t132) := (blk_cell BK123.out 2).trans rfl
            have hfs46 := blk_frozen BK123.out 2
            have hns46_1 := NB124_123.out
            have hns46_2 := NB127_123.out
            have hms46_1 := NB123_124.out
            have hms46_2 := NB123_127.out
            refine skip_ (w1 := ?_) (by rfl) rfl ?_ ?_
            rotate_left
            · go_simp
              rfl
            refine hK.out _ _ ?_
            clear hK K
            refine done_ (done_of HT_.out (by kernel_rfl)) ?_
            try go_wp2
            have n0_ : Aside0 (Kd.R k70 70 ((w42.setCell ⟨gb123, 1, none⟩ (.slice Ao44 y143.length co44)).setCell ⟨gb123, 2, none⟩ (.int .i64 (wrap64 (t132 + 1)))) w0.heap.size (fun k_ => (P0_1_ k_ ∨ w.heap.size ≤ k_) ∧ some k_ ≠ (.slice Ao33 t129.length co33 : Value).ownBlock ∧ some k_ ≠ (.slice Ao43 y140.length co43 : Value).ownBlock ∧ some k_ ≠ (.slice Ao44 y143.length co44 : Value).ownBlock ∧ k_ ≠ gb127) (.slice (some ad126) l0_1.length co19) l0_1) := ⟨by (with_reducible repeat (first | apply Kd.R_alloc | apply Kd.R_drewN | apply Kd.R_drew)); exact Kd.R_mono (Kd.R_far (p := ⟨gb123, 2, none⟩) (Kd.R_far (p := ⟨gb123, 1, none⟩) (Kd.R_types HO0_1.out BK123.out (by decide)) (fun _ hk => hk.2) (.slice Ao44 y143.length co44)) (fun _ hk => hk.2) (.int .i64 (wrap64 (t132 + 1)))) (fun _ hk => ⟨hk.1.1.1, ⟨hk.1.1.2.1, ⟨hk.1.1.2.2.1, ⟨hk.1.2, hk.1.1.2.2.2⟩⟩⟩⟩)⟩
            have n1_ : Aside0 (Kd.R k70 70 ((w42.setCell ⟨gb123, 1, none⟩ (.slice Ao44 y143.length co44)).setCell ⟨gb123, 2, none⟩ (.int .i64 (wrap64 (t132 + 1)))) w0.heap.size (fun k_ => (P0_1_ k_ ∨ w.heap.size ≤ k_) ∧ some k_ ≠ (.slice (some ad126) l0_1.length co19 : Value).ownBlock ∧ some k_ ≠ (.slice Ao43 y140.length co43 : Value).ownBlock ∧ some k_ ≠ (.slice Ao44 y143.length co44 : Value).ownBlock ∧ k_ ≠ gb127) (.slice Ao33 t129.length co33) t129) := ⟨by (with_reducible repeat (first | apply Kd.R_alloc | apply Kd.R_drewN | apply Kd.R_drew)); exact Kd.R_mono (Kd.R_far (p := ⟨gb123, 2, none⟩) (Kd.R_far (p := ⟨gb123, 1, none⟩) (Kd.R_types HO131.out BK123.out (by decide)) (fun _ hk => hk.2) (.slice Ao44 y143.length co44)) (fun _ hk => hk.2) (.int .i64 (wrap64 (t132 + 1)))) (fun _ hk => ⟨hk.1.1.1, ⟨hk.1.1.2.1, ⟨hk.1.1.2.2.1, ⟨hk.1.2, hk.1.1.2.2.2⟩⟩⟩⟩)⟩
            have n2_ : Aside0 (Kd.R k70 70 ((w42.setCell ⟨gb123, 1, none⟩ (.slice Ao44 y143.length co44)).setCell ⟨gb123, 2, none⟩ (.int .i64 (wrap64 (t132 + 1)))) w0.heap.size (fun k_ => (P0_1_ k_ ∨ w.heap.size ≤ k_) ∧ some k_ ≠ (.slice (some ad126) l0_1.length co19 : Value).ownBlock ∧ some k_ ≠ (.slice Ao33 t129.length co33 : Value).ownBlock ∧ some k_ ≠ (.slice Ao44 y143.length co44 : Value).ownBlock ∧ k_ ≠ gb127) (.slice Ao43 y140.length co43) y140) := ⟨by (with_reducible repeat (first | apply Kd.R_alloc | apply Kd.R_drewN | apply Kd.R_drew)); exact Kd.R_mono (Kd.R_far (p := ⟨gb123, 2, none⟩) (Kd.R_far (p := ⟨gb123, 1, none⟩) (Kd.R_types HO142.out BK123.out (by decide)) (fun _ hk => hk.2) (.slice Ao44 y143.length co44)) (fun _ hk => hk.2) (.int .i64 (wrap64 (t132 + 1)))) (fun _ hk => ⟨hk.1.1.1, ⟨hk.1.1.2.1, ⟨hk.1.1.2.2.1, ⟨hk.1.2, hk.1.1.2.2.2⟩⟩⟩⟩)⟩
            have n3_ : Aside0 (Kd.R k70 70 ((w42.setCell ⟨gb123, 1, none⟩ (.slice Ao44 y143.length co44)).setCell ⟨gb123, 2, none⟩ (.int .i64 (wrap64 (t132 + 1)))) w0.heap.size (fun k_ => (P0_1_ k_ ∨ w.heap.size ≤ k_) ∧ some k_ ≠ (.slice (some ad126) l0_1.length co19 : Value).ownBlock ∧ some k_ ≠ (.slice Ao33 t129.length co33 : Value).ownBlock ∧ some k_ ≠ (.slice Ao43 y140.length co43 : Value).ownBlock ∧ k_ ≠ gb127) (.slice Ao44 y143.length co44) y143) := ⟨by (with_reducible repeat (first | apply Kd.R_alloc | apply Kd.R_drewN | apply Kd.R_drew)); exact Kd.R_mono (Kd.R_far (p := ⟨gb123, 2, none⟩) (Kd.R_far (p := ⟨gb123, 1, none⟩) (Kd.R_types HO145.out BK123.out (by decide)) (fun _ hk => hk.2) (.slice Ao44 y143.length co44)) (fun _ hk => hk.2) (.int .i64 (wrap64 (t132 + 1)))) (fun _ hk => ⟨hk.1.1, ⟨hk.1.2.1, ⟨hk.1.2.2.1, ⟨hk.1.2.2.2.1, hk.1.2.2.2.2⟩⟩⟩⟩)⟩
            have n4_ : Aside0 (((w42.setCell ⟨gb123, 1, none⟩ (.slice Ao44 y143.length co44)).setCell ⟨gb123, 2, none⟩ (.int .i64 (wrap64 (t132 + 1)))).heap[gb123]? = some (.cells #[.int .i64 t128, .slice Ao44 y143.length co44, .int .i64 (wrap64 (t132 + 1)), .int .i64 t133] 54 (0, 0))) := ⟨by (with_reducible repeat (first | refine blk_drewN ?_ _ | refine blk_drew ?_ | refine blk_alloc ?_ _)); refine blk_put (cs := #[.int .i64 t128, .slice Ao44 y143.length co44, .int .i64 t132, .int .i64 t133]) ?_ 2 _ rfl; (with_reducible repeat (first | refine blk_drewN ?_ _ | refine blk_drew ?_ | refine blk_alloc ?_ _)); refine blk_put (cs := #[.int .i64 t128, .slice Ao33 t129.length co33, .int .i64 t132, .int .i64 t133]) ?_ 1 _ rfl; (with_reducible repeat (first | refine blk_drewN ?_ _ | refine blk_drew ?_ | refine blk_alloc ?_ _)); exact BK123.out⟩
            have n5_ : Aside0 (((w42.setCell ⟨gb123, 1, none⟩ (.slice Ao44 y143.length co44)).setCell ⟨gb123, 2, none⟩ (.int .i64 (wrap64 (t132 + 1)))).heap[gb124]? = some (.cells #[.int .i64 0, .slice none 0 0, .int .i64 0, .int .i64 0] 54 (0, 0))) := ⟨by (with_reducible repeat (first | refine blk_drewN ?_ _ | refine blk_drew ?_ | refine blk_alloc ?_ _)); refine blk_far ?_ NB124_123.out _; (with_reducible repeat (first | refine blk_drewN ?_ _ | refine blk_drew ?_ | refine blk_alloc ?_ _)); refine blk_far ?_ NB124_123.out _; (with_reducible repeat (first | refine blk_drewN ?_ _ | refine blk_drew ?_ | refine blk_alloc ?_ _)); exact BK124.out⟩
            have n6_ : Aside0 (((w42.setCell ⟨gb123, 1, none⟩ (.slice Ao44 y143.length co44)).setCell ⟨gb123, 2, none⟩ (.int .i64 (wrap64 (t132 + 1)))).heap[gb127]? = some (.cells #[.int .i64 ((rd_T70 l0_1 t125).f0.f0), .int .i64 ((rd_T70 l0_1 t125).f0.f1), .string ((rd_T70 l0_1 t125).f1), .int .i64 ((rd_T70 l0_1 t125).f2)] 70 (0, 0))) := ⟨by (with_reducible repeat (first | refine blk_drewN ?_ _ | refine blk_drew ?_ | refine blk_alloc ?_ _)); refine blk_far ?_ NB127_123.out _; (with_reducible repeat (first | refine blk_drewN ?_ _ | refine blk_drew ?_ | refine blk_alloc ?_ _)); refine blk_far ?_ NB127_123.out _; (with_reducible repeat (first | refine blk_drewN ?_ _ | refine blk_drew ?_ | refine blk_alloc ?_ _)); exact BK127.out⟩
            have n7_ : Aside0 (Kept w ((w42.setCell ⟨gb123, 1, none⟩ (.slice Ao44 y143.length co44)).setCell ⟨gb123, 2, none⟩ (.int .i64 (wrap64 (t132 + 1)))) (fun k_ => P0_1_ k_)) := ⟨by repeat (first | (with_reducible first | exact HK.out | apply Kept.alloc | apply Kept.drewN | apply Kept.drew | refine Kept.setCell ?_ (.inr GW123.out) _ | refine Kept.setCell ?_ (.inr GW124.out) _ | refine Kept.setCell ?_ (.inr GW127.out) _) | exact HK.out)⟩
            have n8_ : Aside0 (Below w0.heap.size w0 ((w42.setCell ⟨gb123, 1, none⟩ (.slice Ao44 y143.length co44)).setCell ⟨gb123, 2, none⟩ (.int .i64 (wrap64 (t132 + 1))))) := ⟨by repeat (first | (with_reducible first | exact HB.out | apply below_alloc | apply pw_below_drewN | apply below_drew1 | refine below_set ?_ GE123.out | refine below_set ?_ GE124.out | refine below_set ?_ GE127.out) | exact HB.out)⟩
            (try clear HO0_1)
            (try clear HO131)
            (try clear HO142)
            (try clear HO145)
            (try clear BK123)
            (try clear BK124)
            (try clear BK127)
            (try clear HK)
            (try clear HB)
            generalize ((w42.setCell ⟨gb123, 1, none⟩ (.slice Ao44 y143.length co44)).setCell ⟨gb123, 2, none⟩ (.int .i64 (wrap64 (t132 + 1)))) = w47 at n0_ n1_ n2_ n3_ n4_ n5_ n6_ n7_ n8_ ⊢
            have HO0_1 := n0_
            have HO131 := n1_
            have HO142 := n2_
            have HO145 := n3_
            have BK123 := n4_
            have BK124 := n5_
            have BK127 := n6_
            have HK := n7_
            have HB := n8_
            clear n0_ n1_ n2_ n3_ n4_ n5_ n6_ n7_ n8_
            have n0_ := Aside0.mk (Kd.R_drew HO0_1.out)
            have n1_ := Aside0.mk (Kd.R_drew HO131.out)
            have n2_ := Aside0.mk (Kd.R_drew HO142.out)
            have n3_ := Aside0.mk (Kd.R_drew HO145.out)
            have n4_ := Aside0.mk (blk_drew BK123.out)
            have n5_ := Aside0.mk (blk_drew BK124.out)
            have n6_ := Aside0.mk (blk_drew BK127.out)
            have n7_ := Aside0.mk (Kept.drew HK.out)
            have n8_ := Aside0.mk (below_drew1 HB.out)
            clear HO0_1
            clear HO131
            clear HO142
            clear HO145
            clear BK123
            clear BK124
            clear BK127
            clear HK
            clear HB
            have HO0_1 := n0_
            have HO131 := n1_
            have HO142 := n2_
            have HO145 := n3_
            have BK123 := n4_
            have BK124 := n5_
            have BK127 := n6_
            have HK := n7_
            have HB := n8_
            clear n0_ n1_ n2_ n3_ n4_ n5_ n6_ n7_ n8_
            refine start_ (n := 9) (S := fun w' => w'.cell? ⟨gb123, 0, none⟩ = some (.int .i64 t128) ∧ w'.cell? ⟨gb123, 1, none⟩ = some (.slice Ao44 y143.length co44) ∧ w'.cell? ⟨gb123, 2, none⟩ = some (.int .i64 (wrap64 (t132 + 1))) ∧ w'.cell? ⟨gb123, 3, none⟩ = some (.int .i64 t133) ∧ w'.cell? ⟨gb127, 0, none⟩ = some (.int .i64 ((rd_T70 l0_1 t125).f0.f0)) ∧ w'.cell? ⟨gb127, 1, none⟩ = some (.int .i64 ((rd_T70 l0_1 t125).f0.f1)) ∧ w'.cell? ⟨gb127, 2, none⟩ = some (.string ((rd_T70 l0_1 t125).f1)) ∧ w'.cell? ⟨gb127, 3, none⟩ = some (.int .i64 ((rd_T70 l0_1 t125).f2))) (ds := []) #[false, false, false, false, false, false, false, false, false] (by kernel_rfl) rfl rfl ⟨(blk_cell BK123.out 0).trans rfl, (blk_cell BK123.out 1).trans rfl, (blk_cell BK123.out 2).trans rfl, (blk_cell BK123.out 3).trans rfl, (blk_cell BK127.out 0).trans rfl, (blk_cell BK127.out 1).trans rfl, (blk_cell BK127.out 2).trans rfl, (blk_cell BK127.out 3).trans rfl⟩ (fun hHeld => ?_); refine with_tabW dasdref25_Get.tab8 dasdref25_Get.bits8 (fun HT_ HW_ => ?_)
            generalize w47.drew = w48 at HO0_1 HO131 HO142 HO145 BK123 BK124 BK127 HK HB hHeld ⊢
            refine pure_ (i := 1) (N := some 44) (v := ?_) (a' := ?_) #[false, true, false, false, false, false, false, false, false] rfl rfl (any_of HT_.out (by kernel_rfl)) (fun _ _ _ h => h) (Or.inl ⟨by rfl, ?_⟩) ?_ ?_
            rotate_left
            · intro w'
              go_simp
              with_reducible rfl
            rotate_left
            · simp only [Act.put, List.setIfInBounds_toArray, List.set_cons_zero, List.set_cons_succ, i64_w, i32_w]
              rfl
            refine pure_ (i := 3) (N := some 46) (v := ?_) (a' := ?_) #[false, true, false, true, false, false, false, false, false] rfl rfl (any_of HT_.out (by kernel_rfl)) (fun _ _ _ h => h) (Or.inl ⟨by rfl, ?_⟩) ?_ ?_
            rotate_left
            · intro w'
              go_simp
              with_reducible rfl
            rotate_left
            · simp only [Act.put, List.setIfInBounds_toArray, List.set_cons_zero, List.set_cons_succ, i64_w, i32_w]
              rfl
            refine take_ (i := 0) (N := some 43) (v := ?_) (a' := ?_) #[true, true, false, true, false, false, false, false, false] rfl rfl (take_ofW HT_.out HW_.out (by kernel_rfl)) (fun _ _ _ h => h) (Or.inl ⟨by rfl, ?_⟩) hHeld ?_ ?_
            rotate_left
            · rintro w' ⟨s0, s1, s2, s3, s4, s5, s6, s7⟩
              go_simp
              with_reducible rfl
            rotate_left
            · simp only [Act.put, List.setIfInBounds_toArray, List.set_cons_zero, List.set_cons_succ, i64_w, i32_w]
              rfl
            refine take_ (i := 2) (N := some 45) (v := ?_) (a' := ?_) #[true, true, true, true, false, false, false, false, false] rfl rfl (take_ofW HT_.out HW_.out (by kernel_rfl)) (fun _ _ _ h => h) (Or.inl ⟨by rfl, ?_⟩) hHeld ?_ ?_
            rotate_left
            · rintro w' ⟨s0, s1, s2, s3, s4, s5, s6, s7⟩
              go_simp
              with_reducible rfl
            rotate_left
            · simp only [Act.put, List.setIfInBounds_toArray, List.set_cons_zero, List.set_cons_succ, i64_w, i32_w]
              rfl
            refine take_ (i := 4) (N := some 47) (v := ?_) (a' := ?_) #[true, true, true, true, true, false, false, false, false] rfl rfl (take_ofW HT_.out HW_.out (by kernel_rfl)) (fun _ _ _ h => h) (Or.inl ⟨by rfl, ?_⟩) hHeld ?_ ?_
            rotate_left
            · rintro w' ⟨s0, s1, s2, s3, s4, s5, s6, s7⟩
              go_simp
              with_reducible rfl
            rotate_left
            · simp only [Act.put, List.setIfInBounds_toArray, List.set_cons_zero, List.set_cons_succ, i64_w, i32_w]
              rfl
            refine one_ (i := 5) (N := none) #[true, true, true, true, true, true, false, false, false] rfl rfl (one_of HT_.out (by kernel_rfl)) (by decide) (fun K hK => ?_)
            have hs49 : w48.cell? ⟨gb124, 0, none⟩ = some (.int .i64 0) := (blk_cell BK124.out 0).trans rfl
            have hfs49 := blk_frozen BK124.out 0
            have hns49_0 := NB123_124.out
            have hns49_2 := NB127_124.out
            have hms49_0 := NB124_123.out
            have hms49_2 := NB124_127.out
            have hs50 : w48.cell? ⟨gb124, 1, none⟩ = some (.slice none 0 0) := (blk_cell BK124.out 1).trans rfl
            have hfs50 := blk_frozen BK124.out 1
            have hns50_0 := NB123_124.out
            have hns50_2 := NB127_124.out
            have hms50_0 := NB124_123.out
            have hms50_2 := NB124_127.out
            have hs51 : w48.cell? ⟨gb124, 2, none⟩ = some (.int .i64 0) := (blk_cell BK124.out 2).trans rfl
            have hfs51 := blk_frozen BK124.out 2
            have hns51_0 := NB123_124.out
            have hns51_2 := NB127_124.out
            have hms51_0 := NB124_123.out
            have hms51_2 := NB124_127.out
            have hs52 : w48.cell? ⟨gb124, 3, none⟩ = some (.int .i64 0) := (blk_cell BK124.out 3).trans rfl
            have hfs52 := blk_frozen BK124.out 3
            have hns52_0 := NB123_124.out
            have hns52_2 := NB127_124.out
            have hms52_0 := NB124_123.out
            have hms52_2 := NB124_127.out
            refine skip_ (w1 := ?_) (by rfl) rfl ?_ ?_
            rotate_left
            · go_simp
              rfl
            refine hK.out _ _ ⟨((cell_far (p := ⟨gb124, _, none⟩) NB123_124.out _).trans (((cell_far (p := ⟨gb124, _, none⟩) NB123_124.out _).trans (((cell_far (p := ⟨gb124, _, none⟩) NB123_124.out _).trans (((cell_far (p := ⟨gb124, _, none⟩) NB123_124.out _).trans (hHeld.1)))))))), ((cell_far (p := ⟨gb124, _, none⟩) NB123_124.out _).trans (((cell_far (p := ⟨gb124, _, none⟩) NB123_124.out _).trans (((cell_far (p := ⟨gb124, _, none⟩) NB123_124.out _).trans (((cell_far (p := ⟨gb124, _, none⟩) NB123_124.out _).trans (hHeld.2.1)))))))), ((cell_far (p := ⟨gb124, _, none⟩) NB123_124.out _).trans (((cell_far (p := ⟨gb124, _, none⟩) NB123_124.out _).trans (((cell_far (p := ⟨gb124, _, none⟩) NB123_124.out _).trans (((cell_far (p := ⟨gb124, _, none⟩) NB123_124.out _).trans (hHeld.2.2.1)))))))), ((cell_far (p := ⟨gb124, _, none⟩) NB123_124.out _).trans (((cell_far (p := ⟨gb124, _, none⟩) NB123_124.out _).trans (((cell_far (p := ⟨gb124, _, none⟩) NB123_124.out _).trans (((cell_far (p := ⟨gb124, _, none⟩) NB123_124.out _).trans (hHeld.2.2.2.1)))))))), ((cell_far (p := ⟨gb124, _, none⟩) NB127_124.out _).trans (((cell_far (p := ⟨gb124, _, none⟩) NB127_124.out _).trans (((cell_far (p := ⟨gb124, _, none⟩) NB127_124.out _).trans (((cell_far (p := ⟨gb124, _, none⟩) NB127_124.out _).trans (hHeld.2.2.2.2.1)))))))), ((cell_far (p := ⟨gb124, _, none⟩) NB127_124.out _).trans (((cell_far (p := ⟨gb124, _, none⟩) NB127_124.out _).trans (((cell_far (p := ⟨gb124, _, none⟩) NB127_124.out _).trans (((cell_far (p := ⟨gb124, _, none⟩) NB127_124.out _).trans (hHeld.2.2.2.2.2.1)))))))), ((cell_far (p := ⟨gb124, _, none⟩) NB127_124.out _).trans (((cell_far (p := ⟨gb124, _, none⟩) NB127_124.out _).trans (((cell_far (p := ⟨gb124, _, none⟩) NB127_124.out _).trans (((cell_far (p := ⟨gb124, _, none⟩) NB127_124.out _).trans (hHeld.2.2.2.2.2.2.1)))))))), ((cell_far (p := ⟨gb124, _, none⟩) NB127_124.out _).trans (((cell_far (p := ⟨gb124, _, none⟩) NB127_124.out _).trans (((cell_far (p := ⟨gb124, _, none⟩) NB127_124.out _).trans (((cell_far (p := ⟨gb124, _, none⟩) NB127_124.out _).trans (hHeld.2.2.2.2.2.2.2))))))))⟩ (fun hHeld => ?_)
            clear hK K
            refine pure_ (i := 6) (N := some 7) (v := ?_) (a' := ?_) #[true, true, true, true, true, true, true, false, false] rfl rfl (any_of HT_.out (by kernel_rfl)) (fun _ _ _ h => h) (Or.inl ⟨by rfl, ?_⟩) ?_ ?_
            rotate_left
            · intro w'
              go_simp
              with_reducible rfl
            rotate_left
            · simp only [Act.put, List.setIfInBounds_toArray, List.set_cons_zero, List.set_cons_succ, i64_w, i32_w]
              rfl
            refine pure_ (i := 7) (N := some 8) (v := ?_) (a' := ?_) #[true, true, true, true, true, true, true, true, false] rfl rfl (any_of HT_.out (by kernel_rfl)) (fun _ _ _ h => h) (Or.inl ⟨by rfl, ?_⟩) ?_ ?_
            rotate_left
            · intro w'
              go_simp
              with_reducible rfl
            rotate_left
            · simp only [Act.put, List.setIfInBounds_toArray, List.set_cons_zero, List.set_cons_succ, i64_w, i32_w]
              rfl
            refine pure_ (i := 8) (N := some 9) (v := ?_) (a' := ?_) #[true, true, true, true, true, true, true, true, true] rfl rfl (any_of HT_.out (by kernel_rfl)) (fun _ _ _ h => h) (Or.inl ⟨by rfl, ?_⟩) ?_ ?_
            rotate_left
            · intro w'
              go_simp
              with_reducible rfl
            rotate_left
            · simp only [Act.put, List.setIfInBounds_toArray, List.set_cons_zero, List.set_cons_succ, i64_w, i32_w]
              rfl
            refine done_ (done_of HT_.out (by kernel_rfl)) ?_
            try go_wp2
            refine bodyPost_ret (results_list (rs := [.cell 6 54, .tmp 7, .tmp 8, .tmp 9]) rfl (by simp) (.cell gb124 54 #[.int .i64 t128, .slice Ao44 y143.length co44, .int .i64 (wrap64 (t132 + 1)), .int .i64 t133] (0, 0) _ rfl (by (with_reducible repeat (first | refine blk_drewN ?_ _ | refine blk_drew ?_ | refine blk_alloc ?_ _)); refine blk_put (cs := #[.int .i64 t128, .slice Ao44 y143.length co44, .int .i64 (wrap64 (t132 + 1)), .int .i64 0]) ?_ 3 _ rfl; (with_reducible repeat (first | refine blk_drewN ?_ _ | refine blk_drew ?_ | refine blk_alloc ?_ _)); refine blk_put (cs := #[.int .i64 t128, .slice Ao44 y143.length co44, .int .i64 0, .int .i64 0]) ?_ 2 _ rfl; (with_reducible repeat (first | refine blk_drewN ?_ _ | refine blk_drew ?_ | refine blk_alloc ?_ _)); refine blk_put (cs := #[.int .i64 t128, .slice none 0 0, .int .i64 0, .int .i64 0]) ?_ 1 _ rfl; (with_reducible repeat (first | refine blk_drewN ?_ _ | refine blk_drew ?_ | refine blk_alloc ?_ _)); refine blk_put (cs := #[.int .i64 0, .slice none 0 0, .int .i64 0, .int .i64 0]) ?_ 0 _ rfl; (with_reducible repeat (first | refine blk_drewN ?_ _ | refine blk_drew ?_ | refine blk_alloc ?_ _)); exact BK124.out) Try.underlying54 rfl (by kernel_rfl) (.tmp (.tmp (.tmp .nil))))) rfl ?_
            exact ⟨_, by first | rfl | (simp [errW_none, errW_some] <;> rfl) | (simp [*, errW_none, errW_some] <;> rfl), by (with_reducible repeat (first | apply Kd.R_alloc | apply Kd.R_drewN | apply Kd.R_drew)); exact Kd.R_mono (Kd.R_far (p := ⟨gb124, 3, none⟩) (Kd.R_far (p := ⟨gb124, 2, none⟩) (Kd.R_far (p := ⟨gb124, 1, none⟩) (Kd.R_far (p := ⟨gb124, 0, none⟩) (Kd.R_types HO145.out BK124.out (by decide)) (fun _ hk => hk.2) (.int .i64 t128)) (fun _ hk => hk.2) (.slice Ao44 y143.length co44)) (fun _ hk => hk.2) (.int .i64 (wrap64 (t132 + 1)))) (fun _ hk => hk.2) (.int .i64 t133)) (fun _ hk => hk.1.1), by repeat (first | (with_reducible first | exact HB.out | apply below_alloc | apply pw_below_drewN | apply below_drew1 | refine below_set ?_ GE123.out | refine below_set ?_ GE124.out | refine below_set ?_ GE127.out) | exact HB.out), by repeat (first | (with_reducible first | exact HK.out | apply Kept.alloc | apply Kept.drewN | apply Kept.drew | refine Kept.setCell ?_ (.inr GW123.out) _ | refine Kept.setCell ?_ (.inr GW124.out) _ | refine Kept.setCell ?_ (.inr GW127.out) _) | exact HK.out)⟩
          · rw [if_neg c18] at H
            exact absurd H (by simp)
        · rw [if_neg c17] at H
          exact absurd H (by simp)
      · rw [if_neg c15] at H
        exact absurd H (by simp)
    · rw [if_neg c14] at H
      exact absurd H (by simp)

end Go.Proofs.Ytlfmlmnpbcidnaa.PG

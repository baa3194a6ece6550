/- Functions of the program as plain Lean functions and the proofs that the Go code computes them, or a row out of them: written by a program of this session (a turned copy of the kit's print; some functions are given by hand). -/
import Derived.Test.YtlfmlmnpbcidnaaPGx0
namespace Go.Proofs.Ytlfmlmnpbcidnaa.PG
open Go.RowKit Go.Proofs.YtlfmlmnpbcidnaaW.PrintWords Go.Proofs.YtlfmlmnpbcidnaaW.PrintLast Go.Proofs.YtlfmlmnpbcidnaaW.PrintMore
attribute [local go_sem] max2_int min2_int max_two min_two max_three min_three max_four min_four   -- for this text's walks alone
set_option linter.unusedVariables false
set_option linter.unusedSimpArgs false

/-! ### dasdref25_remove: function 38 -/
def dasdref25_remove.f (a0_0 : Int) (l0_1 : List (S70)) (a0_2 : Int) (a0_3 : Int) (a1 : Int) : Option (Int × (List (S70)) × Int × Int) := (some (([] : List (S70)) : List (S70))).bind fun y106 => (if 0 ≤ a1 then (if a1 ≤ (l0_1.length : Int) then ((some (l0_1.take (a1 : Int).toNat : List (S70))).bind fun y109 => (if y106.length + y109.length < 3518437208883 then ((some (y106 ++ y109 : List (S70))).bind fun y113 => (if 0 ≤ (wrap64 (a1 + 1)) then (if (wrap64 (a1 + 1)) ≤ (l0_1.length : Int) then ((some (l0_1.drop ((wrap64 (a1 + 1)) : Int).toNat : List (S70))).bind fun y116 => (if y113.length + y116.length < 3518437208883 then (some (a0_0, (y113 ++ y116), a0_2, a0_3)) else (none))) else (none)) else (none))) else (none))) else (none)) else (none))
def dasdref25_remove.T1 : Bool × List (List Nat × List Nat) := (true, [([], []), ([], []), ([1], [1]), ([], []), ([2, 3], [2, 3]), ([0, 4], [0, 4]), ([], []), ([6], [6]), ([], []), ([8], [8]), ([7, 9], [7, 9]), ([5, 10, 5], [5, 10]), ([0, 1, 2, 3, 4, 5, 6, 7, 8, 9, 10, 11], []), ([12, 11, 11, 0, 1, 2, 3, 4, 5, 6, 7, 8, 9, 10, 11], [11, 12])])
def dasdref25_remove.B1 : List Nat := [0, 0, 2, 0, 14, 31, 0, 64, 0, 256, 960, 2047, 4095, 8191]
theorem dasdref25_remove.tab1 : rtab .any (opsOf Try.f38 1) = dasdref25_remove.T1 := by kernel_rfl
theorem dasdref25_remove.bits1 : waitsOk dasdref25_remove.T1.2 dasdref25_remove.B1 = true := by kernel_rfl
set_option maxHeartbeats 8000000 in
set_option maxRecDepth 100000 in
theorem dasdref25_remove.calls (a0_0 : Int) (A0_1 : Option Addr) (c0_1 : Nat) (l0_1 : List (S70)) (a0_2 : Int) (a0_3 : Int) (a1 : Int) (r1 : Int) (r2 : List (S70)) (r3 : Int) (r4 : Int) (w : World) (hr0_1 : Kd.C k70 w A0_1 l0_1.length l0_1) (hc0_1 : l0_1.length ≤ c0_1) (h : dasdref25_remove.f a0_0 l0_1 a0_2 a0_3 a1 = some (r1, r2, r3, r4)) :
    Calls Try.prog 38 #[.agg #[.int .i64 a0_0, .slice A0_1 l0_1.length c0_1, .int .i64 a0_2, .int .i64 a0_3], .int .i64 a1] w fun e w' => ∃ v1_ : Value, e = .returned (.agg #[.int .i64 r1, v1_, .int .i64 r3, .int .i64 r4]) ∧ Kd.R k70 70 w' w.heap.size (fun _ => True) v1_ r2 ∧ Below w.heap.size w w' := by
  have hu54 := Try.underlying54
  have HR0_1 := Aside0.mk hr0_1
  have HC0_1 := Aside0.mk hc0_1
  clear hr0_1 hc0_1
  have HB := Aside0.mk (Below.refl w.heap.size w)
  have H : ((some (([] : List (S70)) : List (S70))).bind fun y106 => (if 0 ≤ a1 then (if a1 ≤ (l0_1.length : Int) then ((some (l0_1.take (a1 : Int).toNat : List (S70))).bind fun y109 => (if y106.length + y109.length < 3518437208883 then ((some (y106 ++ y109 : List (S70))).bind fun y113 => (if 0 ≤ (wrap64 (a1 + 1)) then (if (wrap64 (a1 + 1)) ≤ (l0_1.length : Int) then ((some (l0_1.drop ((wrap64 (a1 + 1)) : Int).toNat : List (S70))).bind fun y116 => (if y113.length + y116.length < 3518437208883 then (some (a0_0, (y113 ++ y116), a0_2, a0_3)) else (none))) else (none)) else (none))) else (none))) else (none)) else (none))) = some (r1, r2, r3, r4) := h
  clear h
  obtain ⟨y106, hy106⟩ : ∃ y_ : List (S70), y_ = (([] : List (S70))) := ⟨_, rfl⟩
  replace H : (if 0 ≤ a1 then (if a1 ≤ (l0_1.length : Int) then ((some (l0_1.take (a1 : Int).toNat : List (S70))).bind fun y109 => (if y106.length + y109.length < 3518437208883 then ((some (y106 ++ y109 : List (S70))).bind fun y113 => (if 0 ≤ (wrap64 (a1 + 1)) then (if (wrap64 (a1 + 1)) ≤ (l0_1.length : Int) then ((some (l0_1.drop ((wrap64 (a1 + 1)) : Int).toNat : List (S70))).bind fun y116 => (if y113.length + y116.length < 3518437208883 then (some (a0_0, (y113 ++ y116), a0_2, a0_3)) else (none))) else (none)) else (none))) else (none))) else (none)) else (none)) = some (r1, r2, r3, r4) := by first | (rw [hy106]; with_reducible exact H) | (have H2_ := (Option.bind_some _ _).symm.trans H; rw [hy106]; with_reducible exact H2_) | (have H2_ := (Option.bind_some _ _).symm.trans H; with_reducible exact H2_) | with_reducible exact H | (rw [hy106]; exact H) | exact H
  have Ny106 := Aside0.mk hy106
  clear hy106
  by_cases c3 : 0 ≤ a1
  · rw [if_pos c3] at H
    have c3b0 := eq_true c3
    have c3b1 : decide (0 ≤ a1) = true := decide_eq_true c3
    clear c3
    by_cases c4 : a1 ≤ (l0_1.length : Int)
    · rw [if_pos c4] at H
      have c4b0 := eq_true c4
      have c4b1 : decide (a1 ≤ (l0_1.length : Int)) = true := decide_eq_true c4
      clear c4
      obtain ⟨y109, hy109⟩ : ∃ y_ : List (S70), y_ = (l0_1.take (a1 : Int).toNat) := ⟨_, rfl⟩
      replace H : (if y106.length + y109.length < 3518437208883 then ((some (y106 ++ y109 : List (S70))).bind fun y113 => (if 0 ≤ (wrap64 (a1 + 1)) then (if (wrap64 (a1 + 1)) ≤ (l0_1.length : Int) then ((some (l0_1.drop ((wrap64 (a1 + 1)) : Int).toNat : List (S70))).bind fun y116 => (if y113.length + y116.length < 3518437208883 then (some (a0_0, (y113 ++ y116), a0_2, a0_3)) else (none))) else (none)) else (none))) else (none)) = some (r1, r2, r3, r4) := by first | (rw [hy109]; with_reducible exact H) | (have H2_ := (Option.bind_some _ _).symm.trans H; rw [hy109]; with_reducible exact H2_) | (have H2_ := (Option.bind_some _ _).symm.trans H; with_reducible exact H2_) | with_reducible exact H | (rw [hy109]; exact H) | exact H
      have Ny109 := Aside0.mk hy109
      clear hy109
      by_cases c5 : y106.length + y109.length < 3518437208883
      · rw [if_pos c5] at H
        have LMc5 := Aside0.mk c5
        clear c5
        obtain ⟨y113, hy113⟩ : ∃ y_ : List (S70), y_ = (y106 ++ y109) := ⟨_, rfl⟩
        replace H : (if 0 ≤ (wrap64 (a1 + 1)) then (if (wrap64 (a1 + 1)) ≤ (l0_1.length : Int) then ((some (l0_1.drop ((wrap64 (a1 + 1)) : Int).toNat : List (S70))).bind fun y116 => (if y113.length + y116.length < 3518437208883 then (some (a0_0, (y113 ++ y116), a0_2, a0_3)) else (none))) else (none)) else (none)) = some (r1, r2, r3, r4) := by first | (rw [hy113]; with_reducible exact H) | (have H2_ := (Option.bind_some _ _).symm.trans H; rw [hy113]; with_reducible exact H2_) | (have H2_ := (Option.bind_some _ _).symm.trans H; with_reducible exact H2_) | with_reducible exact H | (rw [hy113]; exact H) | exact H
        have Ny113 := Aside0.mk hy113
        clear hy113
        obtain ⟨ji6, hji6⟩ : ∃ j_ : Int, (wrap64 (a1 + 1)) = j_ := ⟨_, rfl⟩
        replace H : (if 0 ≤ (ji6) then (if (ji6) ≤ (l0_1.length : Int) then ((some (l0_1.drop ((ji6) : Int).toNat : List (S70))).bind fun y116 => (if y113.length + y116.length < 3518437208883 then (some (a0_0, (y113 ++ y116), a0_2, a0_3)) else (none))) else (none)) else (none)) = some (r1, r2, r3, r4) := by first | (rw [hji6] at H; exact H) | (simp only [hji6] at H ⊢; exact H)
        have hji6w : (IntKind.i64.wrap (a1 + 1)) = ji6 := (i64_w _).trans hji6
        by_cases c7 : 0 ≤ (ji6)
        · rw [if_pos c7] at H
          have c7b0 := eq_true c7
          have c7b1 : decide (0 ≤ (ji6)) = true := decide_eq_true c7
          clear c7
          by_cases c8 : (ji6) ≤ (l0_1.length : Int)
          · rw [if_pos c8] at H
            have c8b0 := eq_true c8
            have c8b1 : decide ((ji6) ≤ (l0_1.length : Int)) = true := decide_eq_true c8
            clear c8
            obtain ⟨y116, hy116⟩ : ∃ y_ : List (S70), y_ = (l0_1.drop ((ji6) : Int).toNat) := ⟨_, rfl⟩
            replace H : (if y113.length + y116.length < 3518437208883 then (some (a0_0, (y113 ++ y116), a0_2, a0_3)) else (none)) = some (r1, r2, r3, r4) := by first | (rw [hy116]; with_reducible exact H) | (have H2_ := (Option.bind_some _ _).symm.trans H; rw [hy116]; with_reducible exact H2_) | (have H2_ := (Option.bind_some _ _).symm.trans H; with_reducible exact H2_) | with_reducible exact H | (rw [hy116]; exact H) | exact H
            have Ny116 := Aside0.mk hy116
            clear hy116
            by_cases c9 : y113.length + y116.length < 3518437208883
            · rw [if_pos c9] at H
              have LMc9 := Aside0.mk c9
              clear c9
              obtain ⟨y120, hy120⟩ : ∃ y_ : List (S70), y_ = (y113 ++ y116) := ⟨_, rfl⟩
              replace H : (some (a0_0, y120, a0_2, a0_3)) = some (r1, r2, r3, r4) := by first | (rw [hy120]; with_reducible exact H) | (have H2_ := (Option.bind_some _ _).symm.trans H; rw [hy120]; with_reducible exact H2_) | (have H2_ := (Option.bind_some _ _).symm.trans H; with_reducible exact H2_) | with_reducible exact H | (rw [hy120]; exact H) | exact H
              have Ny120 := Aside0.mk hy120
              clear hy120
              simp only [Option.some.injEq, Prod.mk.injEq] at H
              obtain ⟨rfl, rfl, rfl, rfl⟩ := H
              go_enter Try.func38, Try.ntmps38
              try go_wp2_with (first | ((with_reducible refine gate_dst (N := 2) rfl ?_); refine box_event ?hg (N := 2) ?hd (cs := #[.int .i64 a0_0, .slice A0_1 l0_1.length c0_1, .int .i64 a0_2, .int .i64 a0_3]) (t := 54) ?hr ?_; (case hd => rfl); (case hg => rfl); (case hr => first | (go_simp; done) | (go_simp; rfl)); intro gb104 hg w10 hbox hb; have n0_ := Aside0.mk (below_step (by repeat (first | (with_reducible first | exact HB.out | apply below_alloc | apply pw_below_drewN | apply below_drew1) | exact HB.out)) hb); have n1_ := Aside0.mk (hbox); have n2_ := Aside0.mk ((by rw [hg]; exact (below_size (by repeat (first | (with_reducible first | exact HB.out | apply below_alloc | apply pw_below_drewN | apply below_drew1) | exact HB.out))) : w.heap.size ≤ gb104)); have n3_ := Aside0.mk ((by rw [hg]; exact (below_size (by repeat (first | (with_reducible first | exact HB.out | apply below_alloc | apply pw_below_drewN | apply below_drew1) | exact HB.out))) : w.heap.size ≤ gb104)); clear HB; have HB := n0_; have BK104 := n1_; have GW104 := n2_; have GE104 := n3_; clear n0_ n1_ n2_ n3_; clear hb hbox hg) | ((with_reducible refine gate_dst (N := 4) rfl ?_); refine box_event ?hg (N := 4) ?hd (cs := #[.int .i64 0, .slice none 0 0, .int .i64 0, .int .i64 0]) (t := 54) ?hr ?_; (case hd => rfl); (case hg => rfl); (case hr => first | (go_simp; done) | (go_simp; rfl)); intro gb105 hg w11 hbox hb; have n0_ := Aside0.mk (blk_below (g := gb104) (o := .cells #[.int .i64 a0_0, .slice A0_1 l0_1.length c0_1, .int .i64 a0_2, .int .i64 a0_3] 54 (0, 0)) (by (with_reducible repeat (first | refine blk_drewN ?_ _ | refine blk_drew ?_ | refine blk_alloc ?_ _)); exact BK104.out) hb); have n1_ := Aside0.mk (below_step (by repeat (first | (with_reducible first | exact HB.out | apply below_alloc | apply pw_below_drewN | apply below_drew1 | refine below_set ?_ GE104.out) | exact HB.out)) hb); have n2_ := Aside0.mk (hbox); have n3_ := Aside0.mk ((by rw [hg]; exact (below_size (by repeat (first | (with_reducible first | exact HB.out | apply below_alloc | apply pw_below_drewN | apply below_drew1 | refine below_set ?_ GE104.out) | exact HB.out))) : w.heap.size ≤ gb105)); have n4_ := Aside0.mk ((by rw [hg]; exact (below_size (by repeat (first | (with_reducible first | exact HB.out | apply below_alloc | apply pw_below_drewN | apply below_drew1 | refine below_set ?_ GE104.out) | exact HB.out))) : w.heap.size ≤ gb105)); have n5_ := Aside0.mk ((by rw [hg]; exact Nat.ne_of_lt (blk_lt (g := gb104) (o := .cells #[.int .i64 a0_0, .slice A0_1 l0_1.length c0_1, .int .i64 a0_2, .int .i64 a0_3] 54 (0, 0)) (by (with_reducible repeat (first | refine blk_drewN ?_ _ | refine blk_drew ?_ | refine blk_alloc ?_ _)); exact BK104.out)) : gb104 ≠ gb105)); have n6_ := Aside0.mk ((by rw [hg]; exact Nat.ne_of_gt (blk_lt (g := gb104) (o := .cells #[.int .i64 a0_0, .slice A0_1 l0_1.length c0_1, .int .i64 a0_2, .int .i64 a0_3] 54 (0, 0)) (by (with_reducible repeat (first | refine blk_drewN ?_ _ | refine blk_drew ?_ | refine blk_alloc ?_ _)); exact BK104.out)) : gb105 ≠ gb104)); clear BK104; clear HB; have BK104 := n0_; have HB := n1_; have BK105 := n2_; have GW105 := n3_; have GE105 := n4_; have NB104_105 := n5_; have NB105_104 := n6_; clear n0_ n1_ n2_ n3_ n4_ n5_ n6_; clear hb hbox hg))
              have n0_ := Aside0.mk (blk_drew BK104.out)
              have n1_ := Aside0.mk (blk_drew BK105.out)
              have n2_ := Aside0.mk (below_drew1 HB.out)
              clear BK104
              clear BK105
              clear HB
              have BK104 := n0_
              have BK105 := n1_
              have HB := n2_
              clear n0_ n1_ n2_
              have q13 : (a1 : Int) ≤ ((l0_1.length : Int) : Int) := of_decide_eq_true (by first | (with_reducible assumption) | assumption)
              obtain ⟨i013, hi013, _, hsz13, _⟩ := info_parts info70
              have hroom13 : l0_1.length ≤ c0_1 := HC0_1.out
              have hC13 : Kd.C k70 _ A0_1 l0_1.length l0_1 := HR0_1.out
              have hcut13 := cut_to (P := Try.prog) 52 70 .i64 Try.underlying52 hi013 A0_1 l0_1.length c0_1 a1 (of_decide_eq_true (by first | (with_reducible assumption) | assumption)) q13 hroom13
              have hr13 := Kd.C_take (m := (a1 : Int).toNat) hC13 (by omega)
              have hy13 : y109.length = (a1 : Int).toNat := (by rw [Ny109.out, List.length_take]; omega)
              rw [← Ny109.out] at hr13
              rw [← hy13] at hcut13
              have HR112 := Aside0.mk hr13
              have HC112 := Aside0.mk (show y109.length ≤ c0_1 from by omega)
              clear hr13 hC13 hroom13 hi013 hsz13
              have KY13 := Aside0.mk hy13
              clear hy13
              replace q13 := eq_true q13
              have q14 : ((ji6) : Int) ≤ ((l0_1.length : Int) : Int) := of_decide_eq_true (by first | (with_reducible assumption) | assumption)
              obtain ⟨i014, hi014, _, hsz14, _⟩ := info_parts info70
              have hroom14 : l0_1.length ≤ c0_1 := HC0_1.out
              have hC14 : Kd.C k70 _ A0_1 l0_1.length l0_1 := HR0_1.out
              have q014 : (0 : Int) ≤ ((ji6) : Int) := of_decide_eq_true (by first | (with_reducible assumption) | assumption)
              have hcut14 := cut_from (P := Try.prog) 52 70 .i64 Try.underlying52 hi014 4 hsz14 A0_1 l0_1.length c0_1 (ji6) q014 q14
              have hr14 := Kd.C_drop (m := ((ji6) : Int).toNat) (c := c0_1) hC14 (by omega) hroom14
              obtain ⟨A14, hA14⟩ : ∃ A1, A1 = (if c0_1 = ((ji6) : Int).toNat then A0_1 else (A0_1 : Option Addr).map (·.add (((ji6) : Int).toNat * 4))) := ⟨_, rfl⟩
              obtain ⟨c14, hc14⟩ : ∃ c1, c1 = c0_1 - ((ji6) : Int).toNat := ⟨_, rfl⟩
              have hy14 : y116.length = l0_1.length - ((ji6) : Int).toNat := (by rw [Ny116.out, List.length_drop] <;> omega)
              rw [show (l0_1).drop ((ji6) : Int).toNat = y116 from Ny116.out.symm] at hr14
              replace hr14 : Kd.C k70 _ A14 y116.length y116 := (by rw [hA14]; exact hr14)
              rw [← hy14, ← hA14, ← hc14] at hcut14
              have HR119 := Aside0.mk hr14
              have HC119 := Aside0.mk (show y116.length ≤ c14 from by rw [hy14, hc14]; exact Nat.sub_le_sub_right hroom14 _)
              clear hr14 hC14 hroom14 hi014 hsz14 hc14
              have KY14 := Aside0.mk hy14
              have KA14 := Aside0.mk hA14
              clear hy14 hA14
              replace q14 := eq_true q14
              refine start_ (n := 14) (S := fun w' => w'.cell? ⟨gb104, 0, none⟩ = some (.int .i64 a0_0) ∧ w'.cell? ⟨gb104, 1, none⟩ = some (.slice A0_1 l0_1.length c0_1) ∧ w'.cell? ⟨gb104, 2, none⟩ = some (.int .i64 a0_2) ∧ w'.cell? ⟨gb104, 3, none⟩ = some (.int .i64 a0_3)) (ds := [13]) #[false, false, false, false, false, false, false, false, false, false, false, false, false, false] (by kernel_rfl) rfl rfl ⟨(blk_cell BK104.out 0).trans rfl, (blk_cell BK104.out 1).trans rfl, (blk_cell BK104.out 2).trans rfl, (blk_cell BK104.out 3).trans rfl⟩ (fun hHeld => ?_); refine with_tabW dasdref25_remove.tab1 dasdref25_remove.bits1 (fun HT_ HW_ => ?_)
              generalize w11.drew = w12 at BK104 BK105 HB HR112 HR119 hHeld ⊢
              refine pure_ (i := 1) (N := some 6) (v := ?_) (a' := ?_) #[false, true, false, false, false, false, false, false, false, false, false, false, false, false] rfl rfl (any_of HT_.out (by kernel_rfl)) (fun _ _ _ h => h) (Or.inl ⟨by rfl, ?_⟩) ?_ ?_
              rotate_left
              · intro w'
                go_simp
                with_reducible rfl
              rotate_left
              · simp only [Act.put, List.setIfInBounds_toArray, List.set_cons_zero, List.set_cons_succ, i64_w, i32_w]
                rfl
              refine pure_ (i := 3) (N := some 8) (v := ?_) (a' := ?_) #[false, true, false, true, false, false, false, false, false, false, false, false, false, false] rfl rfl (any_of HT_.out (by kernel_rfl)) (fun _ _ _ h => h) (Or.inl ⟨by rfl, ?_⟩) ?_ ?_
              rotate_left
              · intro w'
                go_simp
                with_reducible rfl
              rotate_left
              · simp only [Act.put, List.setIfInBounds_toArray, List.set_cons_zero, List.set_cons_succ, i64_w, i32_w]
                rfl
              refine pure_ (i := 6) (N := some 11) (v := ?_) (a' := ?_) #[false, true, false, true, false, false, true, false, false, false, false, false, false, false] rfl rfl (any_of HT_.out (by kernel_rfl)) (fun _ _ _ h => h) (Or.inl ⟨by rfl, ?_⟩) ?_ ?_
              rotate_left
              · intro w'
                go_simp
                with_reducible rfl
              rotate_left
              · simp only [Act.put, List.setIfInBounds_toArray, List.set_cons_zero, List.set_cons_succ, i64_w, i32_w]
                rfl
              refine pure_ (i := 8) (N := some 13) (v := ?_) (a' := ?_) #[false, true, false, true, false, false, true, false, true, false, false, false, false, false] rfl rfl (any_of HT_.out (by kernel_rfl)) (fun _ _ _ h => h) (Or.inl ⟨by rfl, ?_⟩) ?_ ?_
              rotate_left
              · intro w'
                go_simp
                with_reducible rfl
              rotate_left
              · simp only [Act.put, List.setIfInBounds_toArray, List.set_cons_zero, List.set_cons_succ, i64_w, i32_w]
                rfl
              refine pure_ (i := 9) (N := some 14) (v := ?_) (a' := ?_) #[false, true, false, true, false, false, true, false, true, true, false, false, false, false] rfl rfl (any_of HT_.out (by kernel_rfl)) (fun _ _ _ h => h) (Or.inl ⟨by rfl, ?_⟩) ?_ ?_
              rotate_left
              · intro w'
                go_simp
                with_reducible rfl
              rotate_left
              · simp only [Act.put, List.setIfInBounds_toArray, List.set_cons_zero, List.set_cons_succ, i64_w, i32_w]
                rfl
              refine take_ (i := 2) (N := some 7) (v := ?_) (a' := ?_) #[false, true, true, true, false, false, true, false, true, true, false, false, false, false] rfl rfl (take_ofW HT_.out HW_.out (by kernel_rfl)) (fun _ _ _ h => h) (Or.inl ⟨by rfl, ?_⟩) hHeld ?_ ?_
              rotate_left
              · rintro w' ⟨s0, s1, s2, s3⟩
                go_simp
                with_reducible rfl
              rotate_left
              · simp only [Act.put, List.setIfInBounds_toArray, List.set_cons_zero, List.set_cons_succ, i64_w, i32_w]
                rfl
              refine pure_ (i := 4) (N := some 9) (v := ?_) (a' := ?_) #[false, true, true, true, true, false, true, false, true, true, false, false, false, false] rfl rfl (any_of HT_.out (by kernel_rfl)) (fun _ _ _ h => h) (Or.inl ⟨by rfl, ?_⟩) ?_ ?_
              rotate_left
              · intro w'
                go_simp
                with_reducible rfl
              rotate_left
              · simp only [Act.put, List.setIfInBounds_toArray, List.set_cons_zero, List.set_cons_succ, i64_w, i32_w]
                rfl
              refine take_ (i := 7) (N := some 12) (v := ?_) (a' := ?_) #[false, true, true, true, true, false, true, true, true, true, false, false, false, false] rfl rfl (take_ofW HT_.out HW_.out (by kernel_rfl)) (fun _ _ _ h => h) (Or.inl ⟨by rfl, ?_⟩) hHeld ?_ ?_
              rotate_left
              · rintro w' ⟨s0, s1, s2, s3⟩
                go_simp
                with_reducible rfl
              rotate_left
              · simp only [Act.put, List.setIfInBounds_toArray, List.set_cons_zero, List.set_cons_succ, i64_w, i32_w]
                rfl
              refine pure_ (i := 10) (N := some 15) (v := ?_) (a' := ?_) #[false, true, true, true, true, false, true, true, true, true, true, false, false, false] rfl rfl (any_of HT_.out (by kernel_rfl)) (fun _ _ _ h => h) (Or.inl ⟨by rfl, ?_⟩) ?_ ?_
              rotate_left
              · intro w'
                go_simp
                with_reducible rfl
              rotate_left
              · simp only [Act.put, List.setIfInBounds_toArray, List.set_cons_zero, List.set_cons_succ, i64_w, i32_w]
                rfl
              refine one_ (i := 0) (N := some 5) #[true, true, true, true, true, false, true, true, true, true, true, false, false, false] rfl rfl (one_of HT_.out (by kernel_rfl)) (by decide) (fun K hK => ?_)
              refine Kd.R_lit_step k70 _ 70 ?hg (N := 5) ?hd (xs := ([] : List (S70))) (inner := []) (ok := fun _ => True) (okp := fun _ => True) ?hr ?hp (fun _ hk => hk) trivial (Below.refl _ _) (Nat.le_refl _) (by simp) ?_; (case hd => rfl); (case hg => rfl); (case hr => first | (go_simp; done) | (go_simp; rfl)); (case hp => exact (Reps.none _ _))
              intro v107 w15 ho16 hb hg_ hnew_
              clear hg_ hnew_
              (first | rw [← Ny106.out] at ho16 | (simp only [Int.reduceToNat] at ho16; rw [← Ny106.out] at ho16))
              have n0_ := Aside0.mk (Kd.R_lower ho16 (below_size (by repeat (first | (with_reducible first | exact HB.out | apply below_alloc | apply pw_below_drewN | apply below_drew1 | refine below_set ?_ GE104.out | refine below_set ?_ GE105.out) | exact HB.out))))
              have n1_ := Aside0.mk (blk_below (g := gb104) (o := .cells #[.int .i64 a0_0, .slice A0_1 l0_1.length c0_1, .int .i64 a0_2, .int .i64 a0_3] 54 (0, 0)) (by (with_reducible repeat (first | refine blk_drewN ?_ _ | refine blk_drew ?_ | refine blk_alloc ?_ _)); exact BK104.out) hb)
              have n2_ := Aside0.mk (blk_below (g := gb105) (o := .cells #[.int .i64 0, .slice none 0 0, .int .i64 0, .int .i64 0] 54 (0, 0)) (by (with_reducible repeat (first | refine blk_drewN ?_ _ | refine blk_drew ?_ | refine blk_alloc ?_ _)); exact BK105.out) hb)
              have n3_ := Aside0.mk (below_step (by repeat (first | (with_reducible first | exact HB.out | apply below_alloc | apply pw_below_drewN | apply below_drew1 | refine below_set ?_ GE104.out | refine below_set ?_ GE105.out) | exact HB.out)) hb)
              clear BK104
              clear BK105
              clear HB
              have HO108 := n0_
              have BK104 := n1_
              have BK105 := n2_
              have HB := n3_
              clear n0_ n1_ n2_ n3_
              clear hb ho16
              refine hK.out _ _ ⟨(blk_cell BK104.out 0).trans rfl, (blk_cell BK104.out 1).trans rfl, (blk_cell BK104.out 2).trans rfl, (blk_cell BK104.out 3).trans rfl⟩ (fun hHeld => ?_)
              clear hK K
              refine norm_ (a' := ?_) ?_ ?_
              rotate_left
              · show Act.put _ (some 5) _ = _
                simp only [Act.put, List.setIfInBounds_toArray, List.set_cons_zero, List.set_cons_succ, i64_w, i32_w]
                rfl
              refine one_ (i := 5) (N := some 10) #[true, true, true, true, true, true, true, true, true, true, true, false, false, false] rfl rfl (one_of HT_.out (by kernel_rfl)) (by decide) (fun K hK => ?_)
              refine Kd.R_append_rows_step k70 (w0 := w) w.heap.size (by rfl) (.tmp 5) (.tmp 9) 52 70 (.agg #[(.int .i64 0), (.int .i64 0), (.string ⟨#[]⟩), (.int .i64 0)]) 40 rfl Try.underlying52 info70 rfl (by decide) (by omega) v107 y106 y109 _ _ _ (fun _ => True) (fun _ => False) rfl rfl ?aO ?aR (fun _ _ h => h) (fun _ h => h.elim) ?aF ?aB ?aS ?aL ?_
              (case aR => repeat (first | exact (Kd.C_below HR112.out HB.out) | (with_reducible refine Kd.C_alloc ?_ _) | (with_reducible refine Kd.C_drewN ?_ _) | (with_reducible refine Kd.C_drew ?_)))
              (case aB => exact (by repeat (first | (with_reducible first | exact HB.out | apply below_alloc | apply pw_below_drewN | apply below_drew1 | refine below_set ?_ GE104.out | refine below_set ?_ GE105.out) | exact HB.out)))
              (case aF => exact (fun _ _ => trivial))
              (case aO => exact (by (with_reducible repeat (first | apply Kd.R_alloc | apply Kd.R_drewN | apply Kd.R_drew)); exact HO108.out))
              (case aS => exact (below_size (by repeat (first | (with_reducible first | exact HB.out | apply below_alloc | apply pw_below_drewN | apply below_drew1 | refine below_set ?_ GE104.out | refine below_set ?_ GE105.out) | exact HB.out))))
              (case aL => have := LMc5.out; omega)
              intro v114 w17 ho hb hg hat
              rw [← Ny113.out] at ho
              have n0_ := Aside0.mk (blk_grown (g := gb104) (o := .cells #[.int .i64 a0_0, .slice A0_1 l0_1.length c0_1, .int .i64 a0_2, .int .i64 a0_3] 54 (0, 0)) (by (with_reducible repeat (first | refine blk_drewN ?_ _ | refine blk_drew ?_ | refine blk_alloc ?_ _)); exact BK104.out) hg (Kd.R_ne HO108.out BK104.out (by decide)))
              have n1_ := Aside0.mk (blk_grown (g := gb105) (o := .cells #[.int .i64 0, .slice none 0 0, .int .i64 0, .int .i64 0] 54 (0, 0)) (by (with_reducible repeat (first | refine blk_drewN ?_ _ | refine blk_drew ?_ | refine blk_alloc ?_ _)); exact BK105.out) hg (Kd.R_ne HO108.out BK105.out (by decide)))
              have n2_ := Aside0.mk (hb)
              have n3_ := Aside0.mk (ho)
              clear BK104
              clear BK105
              clear HB
              clear HO108
              have BK104 := n0_
              have BK105 := n1_
              have HB := n2_
              have HO115 := n3_
              clear n0_ n1_ n2_ n3_
              clear ho hb hg hat
              refine hK.out _ _ ⟨(blk_cell BK104.out 0).trans rfl, (blk_cell BK104.out 1).trans rfl, (blk_cell BK104.out 2).trans rfl, (blk_cell BK104.out 3).trans rfl⟩ (fun hHeld => ?_)
              clear hK K
              refine norm_ (a' := ?_) ?_ ?_
              rotate_left
              · show Act.put _ (some 10) _ = _
                simp only [Act.put, List.setIfInBounds_toArray, List.set_cons_zero, List.set_cons_succ, i64_w, i32_w]
                rfl
              refine one_ (i := 11) (N := some 16) #[true, true, true, true, true, true, true, true, true, true, true, true, false, false] rfl rfl (one_of HT_.out (by kernel_rfl)) (by decide) (fun K hK => ?_)
              refine Kd.R_append_rows_step k70 (w0 := w) w.heap.size (by rfl) (.tmp 10) (.tmp 15) 52 70 (.agg #[(.int .i64 0), (.int .i64 0), (.string ⟨#[]⟩), (.int .i64 0)]) 40 rfl Try.underlying52 info70 rfl (by decide) (by omega) v114 y113 y116 _ _ _ (fun _ => True) (fun _ => False) rfl rfl ?aO ?aR (fun _ _ h => h) (fun _ h => h.elim) ?aF ?aB ?aS ?aL ?_
              (case aR => repeat (first | exact (Kd.C_below HR119.out HB.out) | (with_reducible refine Kd.C_alloc ?_ _) | (with_reducible refine Kd.C_drewN ?_ _) | (with_reducible refine Kd.C_drew ?_)))
              (case aB => exact (by repeat (first | (with_reducible first | exact HB.out | apply below_alloc | apply pw_below_drewN | apply below_drew1 | refine below_set ?_ GE104.out | refine below_set ?_ GE105.out) | exact HB.out)))
              (case aF => exact (fun _ _ => trivial))
              (case aO => exact (by (with_reducible repeat (first | apply Kd.R_alloc | apply Kd.R_drewN | apply Kd.R_drew)); exact HO115.out))
              (case aS => exact (below_size (by repeat (first | (with_reducible first | exact HB.out | apply below_alloc | apply pw_below_drewN | apply below_drew1 | refine below_set ?_ GE104.out | refine below_set ?_ GE105.out) | exact HB.out))))
              (case aL => have := LMc9.out; omega)
              intro v121 w18 ho hb hg hat
              rw [← Ny120.out] at ho
              have n0_ := Aside0.mk (blk_grown (g := gb104) (o := .cells #[.int .i64 a0_0, .slice A0_1 l0_1.length c0_1, .int .i64 a0_2, .int .i64 a0_3] 54 (0, 0)) (by (with_reducible repeat (first | refine blk_drewN ?_ _ | refine blk_drew ?_ | refine blk_alloc ?_ _)); exact BK104.out) hg (Kd.R_ne HO115.out BK104.out (by decide)))
              have n1_ := Aside0.mk (blk_grown (g := gb105) (o := .cells #[.int .i64 0, .slice none 0 0, .int .i64 0, .int .i64 0] 54 (0, 0)) (by (with_reducible repeat (first | refine blk_drewN ?_ _ | refine blk_drew ?_ | refine blk_alloc ?_ _)); exact BK105.out) hg (Kd.R_ne HO115.out BK105.out (by decide)))
              have n2_ := Aside0.mk (hb)
              have n3_ := Aside0.mk (ho)
              clear BK104
              clear BK105
              clear HB
              clear HO115
              have BK104 := n0_
              have BK105 := n1_
              have HB := n2_
              have HO122 := n3_
              clear n0_ n1_ n2_ n3_
              clear ho hb hg hat
              obtain ⟨Ao19, co19, eo19⟩ := Kd.R_slice HO122.out
              (first | subst eo19 | (injection eo19 with f1_ f2_ f3_; have f4_ := f1_.symm; have f5_ := f3_.symm; clear f1_ f2_ f3_; subst f4_; subst f5_))
              refine hK.out _ _ ⟨(blk_cell BK104.out 0).trans rfl, (blk_cell BK104.out 1).trans rfl, (blk_cell BK104.out 2).trans rfl, (blk_cell BK104.out 3).trans rfl⟩ (fun hHeld => ?_)
              clear hK K
              refine norm_ (a' := ?_) ?_ ?_
              rotate_left
              · show Act.put _ (some 16) _ = _
                simp only [Act.put, List.setIfInBounds_toArray, List.set_cons_zero, List.set_cons_succ, i64_w, i32_w]
                rfl
              refine pure_ (i := 12) (N := some 17) (v := ?_) (a' := ?_) #[true, true, true, true, true, true, true, true, true, true, true, true, true, false] rfl rfl (any_of HT_.out (by kernel_rfl)) (fun _ _ _ h => h) (Or.inl ⟨by rfl, ?_⟩) ?_ ?_
              rotate_left
              · intro w'
                go_simp
                with_reducible rfl
              rotate_left
              · simp only [Act.put, List.setIfInBounds_toArray, List.set_cons_zero, List.set_cons_succ, i64_w, i32_w]
                rfl
              refine last_ (i := 13) (N := none) #[true, true, true, true, true, true, true, true, true, true, true, true, true, true] rfl rfl (one_of HT_.out (by kernel_rfl)) (by decide) (fun K hK => ?_)
              have hs20 : w18.cell? ⟨gb104, 1, none⟩ = some (.slice A0_1 l0_1.length c0_1) := (blk_cell BK104.out 1).trans rfl
              have hfs20 := blk_frozen BK104.out 1
              have hns20_1 := NB105_104.out
              have hms20_1 := NB104_105.out
              refine skip_ (w1 := ?_) (by rfl) rfl ?_ ?_
              rotate_left
              · go_simp
                rfl
              refine hK.out _ _ ?_
              clear hK K
              refine done_ (done_of HT_.out (by kernel_rfl)) ?_
              have hnb21 := NB104_105.out
              have hnc21 := NB105_104.out
              have hcz22_0 : w18.cell? ⟨gb104, 0, none⟩ = some (.int .i64 a0_0) := (blk_cell BK104.out 0).trans rfl
              have hcz22_1 : w18.cell? ⟨gb104, 1, none⟩ = some (.slice A0_1 l0_1.length c0_1) := (blk_cell BK104.out 1).trans rfl
              have hcz22_2 : w18.cell? ⟨gb104, 2, none⟩ = some (.int .i64 a0_2) := (blk_cell BK104.out 2).trans rfl
              have hcz22_3 : w18.cell? ⟨gb104, 3, none⟩ = some (.int .i64 a0_3) := (blk_cell BK104.out 3).trans rfl
              have hfz22_0 := blk_frozen BK104.out 0
              have hfz22_1 := blk_frozen BK104.out 1
              have hfz22_2 := blk_frozen BK104.out 2
              have hfz22_3 := blk_frozen BK104.out 3
              have hcz23_0 : w18.cell? ⟨gb105, 0, none⟩ = some (.int .i64 0) := (blk_cell BK105.out 0).trans rfl
              have hcz23_1 : w18.cell? ⟨gb105, 1, none⟩ = some (.slice none 0 0) := (blk_cell BK105.out 1).trans rfl
              have hcz23_2 : w18.cell? ⟨gb105, 2, none⟩ = some (.int .i64 0) := (blk_cell BK105.out 2).trans rfl
              have hcz23_3 : w18.cell? ⟨gb105, 3, none⟩ = some (.int .i64 0) := (blk_cell BK105.out 3).trans rfl
              have hfz23_0 := blk_frozen BK105.out 0
              have hfz23_1 := blk_frozen BK105.out 1
              have hfz23_2 := blk_frozen BK105.out 2
              have hfz23_3 := blk_frozen BK105.out 3
              try go_wp2
              refine bodyPost_ret (results_cell_row rfl _ _ gb105 54 #[.int .i64 a0_0, .slice Ao19 y120.length co19, .int .i64 a0_2, .int .i64 a0_3] (0, 0) _ rfl (by (with_reducible repeat (first | refine blk_drewN ?_ _ | refine blk_drew ?_ | refine blk_alloc ?_ _)); refine blk_put (cs := #[.int .i64 a0_0, .slice Ao19 y120.length co19, .int .i64 a0_2, .int .i64 0]) ?_ 3 _ rfl; (with_reducible repeat (first | refine blk_drewN ?_ _ | refine blk_drew ?_ | refine blk_alloc ?_ _)); refine blk_put (cs := #[.int .i64 a0_0, .slice Ao19 y120.length co19, .int .i64 0, .int .i64 0]) ?_ 2 _ rfl; (with_reducible repeat (first | refine blk_drewN ?_ _ | refine blk_drew ?_ | refine blk_alloc ?_ _)); refine blk_put (cs := #[.int .i64 a0_0, .slice none 0 0, .int .i64 0, .int .i64 0]) ?_ 1 _ rfl; (with_reducible repeat (first | refine blk_drewN ?_ _ | refine blk_drew ?_ | refine blk_alloc ?_ _)); refine blk_put (cs := #[.int .i64 0, .slice none 0 0, .int .i64 0, .int .i64 0]) ?_ 0 _ rfl; (with_reducible repeat (first | refine blk_drewN ?_ _ | refine blk_drew ?_ | refine blk_alloc ?_ _)); refine blk_far ?_ NB105_104.out _; (with_reducible repeat (first | refine blk_drewN ?_ _ | refine blk_drew ?_ | refine blk_alloc ?_ _)); exact BK105.out) Try.underlying54 rfl (by kernel_rfl)) rfl ?_
              exact ⟨_, by first | rfl | (simp [errW_none, errW_some] <;> rfl) | (simp only [← hji6]; first | rfl | (simp [errW_none, errW_some] <;> rfl)) | (simp [*, errW_none, errW_some] <;> rfl), by (with_reducible repeat (first | apply Kd.R_alloc | apply Kd.R_drewN | apply Kd.R_drew)); exact Kd.R_mono (Kd.R_far (p := ⟨gb105, 3, none⟩) (Kd.R_far (p := ⟨gb105, 2, none⟩) (Kd.R_far (p := ⟨gb105, 1, none⟩) (Kd.R_far (p := ⟨gb105, 0, none⟩) (Kd.R_far (p := ⟨gb104, 1, none⟩) (Kd.R_types (Kd.R_types HO122.out BK104.out (by decide)) BK105.out (by decide)) (fun _ hk => hk.1.2) (.slice Ao19 y120.length co19)) (fun _ hk => hk.2) (.int .i64 a0_0)) (fun _ hk => hk.2) (.slice Ao19 y120.length co19)) (fun _ hk => hk.2) (.int .i64 a0_2)) (fun _ hk => hk.2) (.int .i64 a0_3)) (fun _ hk => trivial), by repeat (first | (with_reducible first | exact HB.out | apply below_alloc | apply pw_below_drewN | apply below_drew1 | refine below_set ?_ GE104.out | refine below_set ?_ GE105.out) | exact HB.out)⟩
            · rw [if_neg c9] at H
              exact absurd H (by simp)
          · rw [if_neg c8] at H
            exact absurd H (by simp)
        · rw [if_neg c7] at H
          exact absurd H (by simp)
      · rw [if_neg c5] at H
        exact absurd H (by simp)
    · rw [if_neg c4] at H
      exact absurd H (by simp)
  · rw [if_neg c3] at H
    exact absurd H (by simp)

end Go.Proofs.Ytlfmlmnpbcidnaa.PG

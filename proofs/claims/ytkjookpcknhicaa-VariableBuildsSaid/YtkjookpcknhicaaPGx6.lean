/- Functions of the program as plain Lean functions and the proofs that the Go code computes them, or a row out of them: written by a program of this session (a turned copy of the kit's print; some functions are given by hand). -/
import Derived.Test.YtkjookpcknhicaaPGx0
import Derived.Test.YtkjookpcknhicaaPGx1
import Derived.Test.YtkjookpcknhicaaPGx2
import Derived.Test.YtkjookpcknhicaaPGx5
namespace Go.Proofs.Ytkjookpcknhicaa.PG
open Go.RowKit Go.Proofs.YtkjookpcknhicaaW.PrintWords Go.Proofs.YtkjookpcknhicaaW.PrintLast Go.Proofs.YtkjookpcknhicaaW.PrintMore
attribute [local go_sem] max2_int min2_int max_two min_two max_three min_three max_four min_four   -- for this text's walks alone
set_option linter.unusedVariables false
set_option linter.unusedSimpArgs false

/-! ### dasdlaw11_VariableWords: function 4 -/
mutual
def dasdlaw11_VariableWords.j0 : Nat → Int → ByteArray → Bool → Option (Bool)
  | 0, _, _, _ => none
  | k + 1, x0, x1, x17 => if x17 = true then ((dasdlaw11_awake.f k).bind fun t195 => (some t195)) else ((variable_ReadWord.f x1).bind fun bt196 => ((dasdref11_ReadWord.f x1).bind fun bt198 => ((variable_Word.f x0).bind fun t200 => ((dasdref11_Word.f x0).bind fun t201 => (if t200.toList = t201.toList then (if bt196.1 = bt198.1 then (if (bt196.2 != bt198.2) = true then (dasdlaw11_VariableWords.j1 k x0 true) else (if bt196.2 = true then ((variable_Word.f bt196.1).bind fun t202 => (dasdlaw11_VariableWords.j1 k x0 (t202.toList != x1.toList))) else (dasdlaw11_VariableWords.j1 k x0 false))) else (dasdlaw11_VariableWords.j1 k x0 true)) else (dasdlaw11_VariableWords.j1 k x0 true))))))
def dasdlaw11_VariableWords.j1 : Nat → Int → Bool → Option (Bool)
  | 0, _, _ => none
  | k + 1, x0, x52 => if x52 = true then (some false) else ((variable_Word.f x0).bind fun t203 => ((variable_ReadWord.f t203).bind fun bt204 => (if x0 ≥ 0 then (if (bt204.2 == (decide (x0 ≤ 65535))) = true then (if bt204.2 = true then (some (bt204.1 == x0)) else (some true)) else (some false)) else (if (bt204.2 == false) = true then (if bt204.2 = true then (some (bt204.1 == x0)) else (some true)) else (some false)))))
end
def dasdlaw11_VariableWords.f (k : Nat) (a0 : Int) (a1 : ByteArray) : Option (Bool) := (dasdlaw11_awake.f k).bind fun t194 => (if t194 = true then (dasdlaw11_VariableWords.j0 k a0 a1 (decide ((a1.size : Int) > 20))) else (dasdlaw11_VariableWords.j0 k a0 a1 true))
theorem dasdlaw11_VariableWords.mono_l : ∀ k, (∀ y0 y1 y2, LeO (dasdlaw11_VariableWords.j0 k y0 y1 y2) (dasdlaw11_VariableWords.j0 (k + 1) y0 y1 y2)) ∧ (∀ y0 y1, LeO (dasdlaw11_VariableWords.j1 k y0 y1) (dasdlaw11_VariableWords.j1 (k + 1) y0 y1))
  | 0 => ⟨fun _ _ _ r h => by simp [dasdlaw11_VariableWords.j0] at h, fun _ _ r h => by simp [dasdlaw11_VariableWords.j1] at h⟩
  | k + 1 => by
    obtain ⟨ih0, ih1⟩ := dasdlaw11_VariableWords.mono_l k
    refine ⟨?_, ?_⟩
    · intro y0 y1 y2
      unfold dasdlaw11_VariableWords.j0
      repeat' first
      | (with_reducible exact ih0 _ _ _)
      | (with_reducible exact ih1 _ _)
      | (with_reducible exact dasdlaw11_awake.mono _)
      | (with_reducible exact LeO.refl _)
      | (with_reducible exact LeO.none _)
      | (with_reducible refine LeO.ite ?_ ?_)
      | (with_reducible refine LeO.bind ?_ (fun _ => ?_))
      | exact ih0 _ _ _
      | exact ih1 _ _
      | exact dasdlaw11_awake.mono _
      | exact LeO.none _
      | refine LeO.ite ?_ ?_
      | refine LeO.bind ?_ (fun _ => ?_)
    · intro y0 y1
      unfold dasdlaw11_VariableWords.j1
      repeat' first
      | (with_reducible exact ih0 _ _ _)
      | (with_reducible exact ih1 _ _)
      | (with_reducible exact dasdlaw11_awake.mono _)
      | (with_reducible exact LeO.refl _)
      | (with_reducible exact LeO.none _)
      | (with_reducible refine LeO.ite ?_ ?_)
      | (with_reducible refine LeO.bind ?_ (fun _ => ?_))
      | exact ih0 _ _ _
      | exact ih1 _ _
      | exact dasdlaw11_awake.mono _
      | exact LeO.none _
      | refine LeO.ite ?_ ?_
      | refine LeO.bind ?_ (fun _ => ?_)
theorem dasdlaw11_VariableWords.mono : ∀ a0 a1 k, LeO (dasdlaw11_VariableWords.f k a0 a1) (dasdlaw11_VariableWords.f (k + 1) a0 a1) := by
  intro a0 a1 k
  obtain ⟨ih0, ih1⟩ := dasdlaw11_VariableWords.mono_l k
  unfold dasdlaw11_VariableWords.f
  repeat' first
      | (with_reducible exact ih0 _ _ _)
      | (with_reducible exact ih1 _ _)
      | (with_reducible exact dasdlaw11_awake.mono _)
      | (with_reducible exact LeO.refl _)
      | (with_reducible exact LeO.none _)
      | (with_reducible refine LeO.ite ?_ ?_)
      | (with_reducible refine LeO.bind ?_ (fun _ => ?_))
      | exact ih0 _ _ _
      | exact ih1 _ _
      | exact dasdlaw11_awake.mono _
      | exact LeO.none _
      | refine LeO.ite ?_ ?_
      | refine LeO.bind ?_ (fun _ => ?_)
set_option maxHeartbeats 8000000 in
set_option maxRecDepth 100000 in
theorem dasdlaw11_VariableWords.calls (k : Nat) (a0 : Int) (a1 : ByteArray) (r : Bool) (w : World) (h : dasdlaw11_VariableWords.f k a0 a1 = some r) :
    Calls Try.prog 4 #[.int .i64 a0, .string a1] w fun e w' => e = .returned (.bool r) ∧ Below w.heap.size w w' := by
  have HB := Aside0.mk (Below.refl w.heap.size w)
  have H : ((dasdlaw11_awake.f k).bind fun t194 => (if t194 = true then (dasdlaw11_VariableWords.j0 k a0 a1 (decide ((a1.size : Int) > 20))) else (dasdlaw11_VariableWords.j0 k a0 a1 true))) = some r := h
  clear h
  have HC3 := Aside0.mk H
  clear H
  go_enter Try.func4, Try.ntmps4
  go_upto_region 1 with (fail)
  go_cut [17] (fun v17 wc => ∃ (kq : Nat) (x17_2 : Bool), v17 = .bool x17_2 ∧ Aside0 (dasdlaw11_VariableWords.j0 kq a0 a1 x17_2 = some r) ∧ Aside0 (kq ≤ k) ∧ Aside0 (Below w.heap.size w wc))
  case first =>
    have H := HC3.out
    clear HC3
    replace H := Option.bind_eq_some_iff.mp H
    obtain ⟨t194, A40, H⟩ := H
    replace H : (if t194 = true then (dasdlaw11_VariableWords.j0 k a0 a1 (decide ((a1.size : Int) > 20))) else (dasdlaw11_VariableWords.j0 k a0 a1 true)) = some r := H
    have A4 := Aside0.mk A40
    clear A40
    by_cases c5 : t194 = true
    · subst c5
      have H1 : (dasdlaw11_VariableWords.j0 k a0 a1 (decide ((a1.size : Int) > 20))) = some r := by rw [if_pos rfl] at H; exact H
      clear H
      have H := H1
      clear H1
      have H' := Aside0.mk H
      clear H
      go_wp2_with (first | ((with_reducible refine gate_callee (f := 10) rfl ?_); refine goesL_ (some 11) rfl rfl Try.func10 (by kernel_rfl) rfl #[] rfl (by (try simp only [List.map_toArray, List.map_cons, List.map_nil]); first | done | rfl | (simp only [List.length_drop, List.length_take]; rfl)) ?_; (with_reducible refine (dasdlaw11_awake.calls k  true _ A4.out).mono ?_); rintro e w6 ⟨rfl, hb⟩; refine ⟨_, rfl, ?_⟩; have n0_ := Aside0.mk (below_step (by repeat (first | (with_reducible first | exact HB.out | apply below_alloc | apply pw_below_drewN | apply below_drew1) | exact HB.out)) hb); clear HB; have HB := n0_; clear n0_; (try clear hb); (try clear hb2); (try clear hk); (try clear hi)))
      go_meet
      case rel => exact ⟨_, (decide ((a1.size : Int) > 20)), (by first | rfl | (simp; done) | (simp [*]; done)), H', ⟨by first | omega | exact Nat.le_refl _⟩, ⟨by repeat (first | (with_reducible first | exact HB.out | apply below_alloc | apply pw_below_drewN | apply below_drew1) | exact HB.out)⟩⟩
    · replace c5 := Bool.eq_false_iff.mpr c5
      subst c5
      have H1 : (dasdlaw11_VariableWords.j0 k a0 a1 true) = some r := by rw [if_neg (show ¬ (false = true) by decide)] at H; exact H
      clear H
      have H := H1
      clear H1
      have H' := Aside0.mk H
      clear H
      go_wp2_with (first | ((with_reducible refine gate_callee (f := 10) rfl ?_); refine goesL_ (some 11) rfl rfl Try.func10 (by kernel_rfl) rfl #[] rfl (by (try simp only [List.map_toArray, List.map_cons, List.map_nil]); first | done | rfl | (simp only [List.length_drop, List.length_take]; rfl)) ?_; (with_reducible refine (dasdlaw11_awake.calls k  false _ A4.out).mono ?_); rintro e w7 ⟨rfl, hb⟩; refine ⟨_, rfl, ?_⟩; have n0_ := Aside0.mk (below_step (by repeat (first | (with_reducible first | exact HB.out | apply below_alloc | apply pw_below_drewN | apply below_drew1) | exact HB.out)) hb); clear HB; have HB := n0_; clear n0_; (try clear hb); (try clear hb2); (try clear hk); (try clear hi)))
      go_meet
      case rel => exact ⟨_, (true), (by first | rfl | (simp; done) | (simp [*]; done)), H', ⟨by first | omega | exact Nat.le_refl _⟩, ⟨by repeat (first | (with_reducible first | exact HB.out | apply below_alloc | apply pw_below_drewN | apply below_drew1) | exact HB.out)⟩⟩
  case rest =>
    clear HC3
    try clear c1
    try clear p2
    try clear c4
    try clear c5
    obtain ⟨kq, x17_2, rfl, HA, HJ2, HB⟩ := hcut
    cases kq with
    | zero => exact absurd HA.out (by simp [dasdlaw11_VariableWords.j0])
    | succ kj2 =>
      have H := HA.out
      clear HA
      simp only [dasdlaw11_VariableWords.j0] at H
      by_cases c8 : x17_2 = true
      · subst c8
        have H1 : ((dasdlaw11_awake.f kj2).bind fun t195 => (some t195)) = some r := by rw [if_pos rfl] at H; exact H
        clear H
        have H := H1
        clear H1
        replace H := Option.bind_eq_some_iff.mp H
        obtain ⟨t195, A90, H⟩ := H
        replace H : (some t195) = some r := H
        have A9 := Aside0.mk A90
        clear A90
        obtain rfl := Option.some.inj H
        go_wp2_with (first | ((with_reducible refine gate_callee (f := 10) rfl ?_); refine goesL_ (some 18) rfl rfl Try.func10 (by kernel_rfl) rfl #[] rfl (by (try simp only [List.map_toArray, List.map_cons, List.map_nil]); first | done | rfl | (simp only [List.length_drop, List.length_take]; rfl)) ?_; (with_reducible refine (dasdlaw11_awake.calls kj2  t195 _ A9.out).mono ?_); rintro e w10 ⟨rfl, hb⟩; refine ⟨_, rfl, ?_⟩; have n0_ := Aside0.mk (below_step (by repeat (first | (with_reducible first | exact HB.out | apply below_alloc | apply pw_below_drewN | apply below_drew1) | exact HB.out)) hb); clear HB; have HB := n0_; clear n0_; (try clear hb); (try clear hb2); (try clear hk); (try clear hi)))
        go_ret
        exact ⟨by first | rfl | (simp [errW_none, errW_some] <;> rfl) | (simp [*, errW_none, errW_some] <;> rfl), by repeat (first | (with_reducible first | exact HB.out | apply below_alloc | apply pw_below_drewN | apply below_drew1) | exact HB.out)⟩
      · replace c8 := Bool.eq_false_iff.mpr c8
        subst c8
        have H1 : ((variable_ReadWord.f a1).bind fun bt196 => ((dasdref11_ReadWord.f a1).bind fun bt198 => ((variable_Word.f a0).bind fun t200 => ((dasdref11_Word.f a0).bind fun t201 => (if t200.toList = t201.toList then (if bt196.1 = bt198.1 then (if (bt196.2 != bt198.2) = true then (dasdlaw11_VariableWords.j1 kj2 a0 true) else (if bt196.2 = true then ((variable_Word.f bt196.1).bind fun t202 => (dasdlaw11_VariableWords.j1 kj2 a0 (t202.toList != a1.toList))) else (dasdlaw11_VariableWords.j1 kj2 a0 false))) else (dasdlaw11_VariableWords.j1 kj2 a0 true)) else (dasdlaw11_VariableWords.j1 kj2 a0 true)))))) = some r := by rw [if_neg (show ¬ (false = true) by decide)] at H; exact H
        clear H
        have H := H1
        clear H1
        replace H := Option.bind_eq_some_iff.mp H
        obtain ⟨⟨t196, t197⟩, A110, H⟩ := H
        replace H : ((dasdref11_ReadWord.f a1).bind fun bt198 => ((variable_Word.f a0).bind fun t200 => ((dasdref11_Word.f a0).bind fun t201 => (if t200.toList = t201.toList then (if t196 = bt198.1 then (if (t197 != bt198.2) = true then (dasdlaw11_VariableWords.j1 kj2 a0 true) else (if t197 = true then ((variable_Word.f t196).bind fun t202 => (dasdlaw11_VariableWords.j1 kj2 a0 (t202.toList != a1.toList))) else (dasdlaw11_VariableWords.j1 kj2 a0 false))) else (dasdlaw11_VariableWords.j1 kj2 a0 true)) else (dasdlaw11_VariableWords.j1 kj2 a0 true))))) = some r := H
        have A11 := Aside0.mk A110
        clear A110
        replace H := Option.bind_eq_some_iff.mp H
        obtain ⟨⟨t198, t199⟩, A120, H⟩ := H
        replace H : ((variable_Word.f a0).bind fun t200 => ((dasdref11_Word.f a0).bind fun t201 => (if t200.toList = t201.toList then (if t196 = t198 then (if (t197 != t199) = true then (dasdlaw11_VariableWords.j1 kj2 a0 true) else (if t197 = true then ((variable_Word.f t196).bind fun t202 => (dasdlaw11_VariableWords.j1 kj2 a0 (t202.toList != a1.toList))) else (dasdlaw11_VariableWords.j1 kj2 a0 false))) else (dasdlaw11_VariableWords.j1 kj2 a0 true)) else (dasdlaw11_VariableWords.j1 kj2 a0 true)))) = some r := H
        have A12 := Aside0.mk A120
        clear A120
        have HC13 := Aside0.mk H
        clear H
        go_upto_region 5 with (first | ((with_reducible refine gate_callee (f := 17) rfl ?_); refine goesL_ (some 21) rfl rfl Try.func17 (by kernel_rfl) rfl #[.string a1] rfl (by (try simp only [List.map_toArray, List.map_cons, List.map_nil]); first | done | rfl | (simp only [List.length_drop, List.length_take]; rfl)) ?_; (with_reducible refine (variable_ReadWord.calls a1 t196 t197 _ A11.out).mono ?_); rintro e w' ⟨rfl, ⟨nd, rfl⟩⟩; refine ⟨_, rfl, ?_⟩) | ((with_reducible refine gate_callee (f := 18) rfl ?_); refine goesL_ (some 26) rfl rfl Try.func18 (by kernel_rfl) rfl #[.string a1] rfl (by (try simp only [List.map_toArray, List.map_cons, List.map_nil]); first | done | rfl | (simp only [List.length_drop, List.length_take]; rfl)) ?_; (with_reducible refine (dasdref11_ReadWord.calls a1 t198 t199 _ A12.out).mono ?_); rintro e w' ⟨rfl, ⟨nd, rfl⟩⟩; refine ⟨_, rfl, ?_⟩))
        (try simp only [Act.put, List.setIfInBounds_toArray, List.set_cons_zero, List.set_cons_succ])
        go_cut [52] (fun v52 wc => ∃ (kq : Nat) (x52_12 : Bool), v52 = .bool x52_12 ∧ Aside0 (dasdlaw11_VariableWords.j1 kq a0 x52_12 = some r) ∧ Aside0 (kq ≤ kj2) ∧ Aside0 (Below w.heap.size w wc))
        case first =>
          have H := HC13.out
          clear HC13
          replace H := Option.bind_eq_some_iff.mp H
          obtain ⟨t200, A140, H⟩ := H
          replace H : ((dasdref11_Word.f a0).bind fun t201 => (if t200.toList = t201.toList then (if t196 = t198 then (if (t197 != t199) = true then (dasdlaw11_VariableWords.j1 kj2 a0 true) else (if t197 = true then ((variable_Word.f t196).bind fun t202 => (dasdlaw11_VariableWords.j1 kj2 a0 (t202.toList != a1.toList))) else (dasdlaw11_VariableWords.j1 kj2 a0 false))) else (dasdlaw11_VariableWords.j1 kj2 a0 true)) else (dasdlaw11_VariableWords.j1 kj2 a0 true))) = some r := H
          have A14 := Aside0.mk A140
          clear A140
          replace H := Option.bind_eq_some_iff.mp H
          obtain ⟨t201, A150, H⟩ := H
          replace H : (if t200.toList = t201.toList then (if t196 = t198 then (if (t197 != t199) = true then (dasdlaw11_VariableWords.j1 kj2 a0 true) else (if t197 = true then ((variable_Word.f t196).bind fun t202 => (dasdlaw11_VariableWords.j1 kj2 a0 (t202.toList != a1.toList))) else (dasdlaw11_VariableWords.j1 kj2 a0 false))) else (dasdlaw11_VariableWords.j1 kj2 a0 true)) else (dasdlaw11_VariableWords.j1 kj2 a0 true)) = some r := H
          have A15 := Aside0.mk A150
          clear A150
          by_cases c16 : t200.toList = t201.toList
          · rw [if_pos c16] at H
            have c16b0 : (t200.toList == t201.toList) = true := beq_iff_eq.mpr c16
            have c16b1 : (t200.toList != t201.toList) = false := bne_eq_false_iff_eq.mpr c16
            clear c16
            (first | rw [c16b0] | (simp only [i64_w, i32_w]; rw [c16b0]) | skip)
            by_cases c17 : t196 = t198
            · rw [if_pos c17] at H
              have c17b0 : (t196 == t198) = true := beq_iff_eq.mpr c17
              have c17b1 : (t196 != t198) = false := bne_eq_false_iff_eq.mpr c17
              clear c17
              by_cases c18 : (t197 != t199) = true
              · rw [if_pos c18] at H
                have c18b0 : (t197 != t199) = true := c18
                (try (have c18b1 : decide (t197 = t199) = false := by simpa using c18))
                (try (have c18b2 : (t197 == t199) = false := by simpa using c18))
                (try (have c18b3 : ¬ (t197 = t199) := by simpa using c18))
                clear c18
                have H' := Aside0.mk H
                clear H
                go_wp2_with (first | ((with_reducible refine gate_callee (f := 19) rfl ?_); refine goesL_ (some 30) rfl rfl Try.func19 (by kernel_rfl) rfl #[.int .i64 a0] rfl (by (try simp only [List.map_toArray, List.map_cons, List.map_nil]); first | done | rfl | (simp only [List.length_drop, List.length_take]; rfl)) ?_; (with_reducible refine (variable_Word.calls a0 t200 _ A14.out).mono ?_); rintro e w19 ⟨rfl, hb⟩; refine ⟨_, rfl, ?_⟩; have n0_ := Aside0.mk (below_step (by repeat (first | (with_reducible first | exact HB.out | apply below_alloc | apply pw_below_drewN | apply below_drew1) | exact HB.out)) hb); clear HB; have HB := n0_; clear n0_; (try clear hb); (try clear hb2); (try clear hk); (try clear hi)) | ((with_reducible refine gate_callee (f := 20) rfl ?_); refine goesL_ (some 32) rfl rfl Try.func20 (by kernel_rfl) rfl #[.int .i64 a0] rfl (by (try simp only [List.map_toArray, List.map_cons, List.map_nil]); first | done | rfl | (simp only [List.length_drop, List.length_take]; rfl)) ?_; (with_reducible refine (dasdref11_Word.calls a0 t201 _ A15.out).mono ?_); rintro e w20 ⟨rfl, hb⟩; refine ⟨_, rfl, ?_⟩; have n0_ := Aside0.mk (below_step (by repeat (first | (with_reducible first | exact HB.out | apply below_alloc | apply pw_below_drewN | apply below_drew1) | exact HB.out)) hb); clear HB; have HB := n0_; clear n0_; (try clear hb); (try clear hb2); (try clear hk); (try clear hi)))
                go_meet
                case rel => exact ⟨_, (true), (by first | rfl | (simp; done) | (simp [*]; done)), H', ⟨by have := HJ2.out; first | omega | exact Nat.le_refl _⟩, ⟨by repeat (first | (with_reducible first | exact HB.out | apply below_alloc | apply pw_below_drewN | apply below_drew1) | exact HB.out)⟩⟩
              · rw [if_neg c18] at H
                have c18b0 : (t197 != t199) = false := by simpa using c18
                (try (have c18b1 : decide (t197 = t199) = true := by simpa using c18))
                (try (have c18b2 : (t197 == t199) = true := by simpa using c18))
                clear c18
                by_cases c21 : t197 = true
                · subst c21
                  have H1 : ((variable_Word.f t196).bind fun t202 => (dasdlaw11_VariableWords.j1 kj2 a0 (t202.toList != a1.toList))) = some r := by rw [if_pos rfl] at H; exact H
                  clear H
                  have H := H1
                  clear H1
                  replace H := Option.bind_eq_some_iff.mp H
                  obtain ⟨t202, A220, H⟩ := H
                  replace H : (dasdlaw11_VariableWords.j1 kj2 a0 (t202.toList != a1.toList)) = some r := H
                  have A22 := Aside0.mk A220
                  clear A220
                  have H' := Aside0.mk H
                  clear H
                  go_wp2_with (first | ((with_reducible refine gate_callee (f := 19) rfl ?_); refine goesL_ (some 30) rfl rfl Try.func19 (by kernel_rfl) rfl #[.int .i64 a0] rfl (by (try simp only [List.map_toArray, List.map_cons, List.map_nil]); first | done | rfl | (simp only [List.length_drop, List.length_take]; rfl)) ?_; (with_reducible refine (variable_Word.calls a0 t200 _ A14.out).mono ?_); rintro e w23 ⟨rfl, hb⟩; refine ⟨_, rfl, ?_⟩; have n0_ := Aside0.mk (below_step (by repeat (first | (with_reducible first | exact HB.out | apply below_alloc | apply pw_below_drewN | apply below_drew1) | exact HB.out)) hb); clear HB; have HB := n0_; clear n0_; (try clear hb); (try clear hb2); (try clear hk); (try clear hi)) | ((with_reducible refine gate_callee (f := 20) rfl ?_); refine goesL_ (some 32) rfl rfl Try.func20 (by kernel_rfl) rfl #[.int .i64 a0] rfl (by (try simp only [List.map_toArray, List.map_cons, List.map_nil]); first | done | rfl | (simp only [List.length_drop, List.length_take]; rfl)) ?_; (with_reducible refine (dasdref11_Word.calls a0 t201 _ A15.out).mono ?_); rintro e w24 ⟨rfl, hb⟩; refine ⟨_, rfl, ?_⟩; have n0_ := Aside0.mk (below_step (by repeat (first | (with_reducible first | exact HB.out | apply below_alloc | apply pw_below_drewN | apply below_drew1) | exact HB.out)) hb); clear HB; have HB := n0_; clear n0_; (try clear hb); (try clear hb2); (try clear hk); (try clear hi)) | (go_at_call 19; (with_reducible refine (variable_Word.calls t196 t202 _ A22.out).mono ?_); rintro e w25 ⟨rfl, hb⟩; have n0_ := Aside0.mk (below_step (by repeat (first | (with_reducible first | exact HB.out | apply below_alloc | apply pw_below_drewN | apply below_drew1) | exact HB.out)) hb); clear HB; have HB := n0_; clear n0_; (try clear hb); (try clear hb2); (try clear hk); (try clear hi)))
                  go_meet
                  case rel => exact ⟨_, ((t202.toList != a1.toList)), (by first | rfl | (simp; done) | (simp [*]; done)), H', ⟨by have := HJ2.out; first | omega | exact Nat.le_refl _⟩, ⟨by repeat (first | (with_reducible first | exact HB.out | apply below_alloc | apply pw_below_drewN | apply below_drew1) | exact HB.out)⟩⟩
                · replace c21 := Bool.eq_false_iff.mpr c21
                  subst c21
                  have H1 : (dasdlaw11_VariableWords.j1 kj2 a0 false) = some r := by rw [if_neg (show ¬ (false = true) by decide)] at H; exact H
                  clear H
                  have H := H1
                  clear H1
                  have H' := Aside0.mk H
                  clear H
                  go_wp2_with (first | ((with_reducible refine gate_callee (f := 19) rfl ?_); refine goesL_ (some 30) rfl rfl Try.func19 (by kernel_rfl) rfl #[.int .i64 a0] rfl (by (try simp only [List.map_toArray, List.map_cons, List.map_nil]); first | done | rfl | (simp only [List.length_drop, List.length_take]; rfl)) ?_; (with_reducible refine (variable_Word.calls a0 t200 _ A14.out).mono ?_); rintro e w26 ⟨rfl, hb⟩; refine ⟨_, rfl, ?_⟩; have n0_ := Aside0.mk (below_step (by repeat (first | (with_reducible first | exact HB.out | apply below_alloc | apply pw_below_drewN | apply below_drew1) | exact HB.out)) hb); clear HB; have HB := n0_; clear n0_; (try clear hb); (try clear hb2); (try clear hk); (try clear hi)) | ((with_reducible refine gate_callee (f := 20) rfl ?_); refine goesL_ (some 32) rfl rfl Try.func20 (by kernel_rfl) rfl #[.int .i64 a0] rfl (by (try simp only [List.map_toArray, List.map_cons, List.map_nil]); first | done | rfl | (simp only [List.length_drop, List.length_take]; rfl)) ?_; (with_reducible refine (dasdref11_Word.calls a0 t201 _ A15.out).mono ?_); rintro e w27 ⟨rfl, hb⟩; refine ⟨_, rfl, ?_⟩; have n0_ := Aside0.mk (below_step (by repeat (first | (with_reducible first | exact HB.out | apply below_alloc | apply pw_below_drewN | apply below_drew1) | exact HB.out)) hb); clear HB; have HB := n0_; clear n0_; (try clear hb); (try clear hb2); (try clear hk); (try clear hi)))
                  go_meet
                  case rel => exact ⟨_, (false), (by first | rfl | (simp; done) | (simp [*]; done)), H', ⟨by have := HJ2.out; first | omega | exact Nat.le_refl _⟩, ⟨by repeat (first | (with_reducible first | exact HB.out | apply below_alloc | apply pw_below_drewN | apply below_drew1) | exact HB.out)⟩⟩
            · rw [if_neg c17] at H
              have c17b0 : (t196 == t198) = false := beq_eq_false_iff_ne.mpr c17
              have c17b1 : (t196 != t198) = true := bne_iff_ne.mpr c17
              have H' := Aside0.mk H
              clear H
              go_wp2_with (first | ((with_reducible refine gate_callee (f := 19) rfl ?_); refine goesL_ (some 30) rfl rfl Try.func19 (by kernel_rfl) rfl #[.int .i64 a0] rfl (by (try simp only [List.map_toArray, List.map_cons, List.map_nil]); first | done | rfl | (simp only [List.length_drop, List.length_take]; rfl)) ?_; (with_reducible refine (variable_Word.calls a0 t200 _ A14.out).mono ?_); rintro e w28 ⟨rfl, hb⟩; refine ⟨_, rfl, ?_⟩; have n0_ := Aside0.mk (below_step (by repeat (first | (with_reducible first | exact HB.out | apply below_alloc | apply pw_below_drewN | apply below_drew1) | exact HB.out)) hb); clear HB; have HB := n0_; clear n0_; (try clear hb); (try clear hb2); (try clear hk); (try clear hi)) | ((with_reducible refine gate_callee (f := 20) rfl ?_); refine goesL_ (some 32) rfl rfl Try.func20 (by kernel_rfl) rfl #[.int .i64 a0] rfl (by (try simp only [List.map_toArray, List.map_cons, List.map_nil]); first | done | rfl | (simp only [List.length_drop, List.length_take]; rfl)) ?_; (with_reducible refine (dasdref11_Word.calls a0 t201 _ A15.out).mono ?_); rintro e w29 ⟨rfl, hb⟩; refine ⟨_, rfl, ?_⟩; have n0_ := Aside0.mk (below_step (by repeat (first | (with_reducible first | exact HB.out | apply below_alloc | apply pw_below_drewN | apply below_drew1) | exact HB.out)) hb); clear HB; have HB := n0_; clear n0_; (try clear hb); (try clear hb2); (try clear hk); (try clear hi)))
              go_meet
              case rel => exact ⟨_, (true), (by first | rfl | (simp; done) | (simp [*]; done)), H', ⟨by have := HJ2.out; first | omega | exact Nat.le_refl _⟩, ⟨by repeat (first | (with_reducible first | exact HB.out | apply below_alloc | apply pw_below_drewN | apply below_drew1) | exact HB.out)⟩⟩
          · rw [if_neg c16] at H
            have c16b0 : (t200.toList == t201.toList) = false := beq_eq_false_iff_ne.mpr c16
            have c16b1 : (t200.toList != t201.toList) = true := bne_iff_ne.mpr c16
            (first | rw [c16b0] | (simp only [i64_w, i32_w]; rw [c16b0]) | skip)
            have H' := Aside0.mk H
            clear H
            go_wp2_with (first | ((with_reducible refine gate_callee (f := 19) rfl ?_); refine goesL_ (some 30) rfl rfl Try.func19 (by kernel_rfl) rfl #[.int .i64 a0] rfl (by (try simp only [List.map_toArray, List.map_cons, List.map_nil]); first | done | rfl | (simp only [List.length_drop, List.length_take]; rfl)) ?_; (with_reducible refine (variable_Word.calls a0 t200 _ A14.out).mono ?_); rintro e w30 ⟨rfl, hb⟩; refine ⟨_, rfl, ?_⟩; have n0_ := Aside0.mk (below_step (by repeat (first | (with_reducible first | exact HB.out | apply below_alloc | apply pw_below_drewN | apply below_drew1) | exact HB.out)) hb); clear HB; have HB := n0_; clear n0_; (try clear hb); (try clear hb2); (try clear hk); (try clear hi)) | ((with_reducible refine gate_callee (f := 20) rfl ?_); refine goesL_ (some 32) rfl rfl Try.func20 (by kernel_rfl) rfl #[.int .i64 a0] rfl (by (try simp only [List.map_toArray, List.map_cons, List.map_nil]); first | done | rfl | (simp only [List.length_drop, List.length_take]; rfl)) ?_; (with_reducible refine (dasdref11_Word.calls a0 t201 _ A15.out).mono ?_); rintro e w31 ⟨rfl, hb⟩; refine ⟨_, rfl, ?_⟩; have n0_ := Aside0.mk (below_step (by repeat (first | (with_reducible first | exact HB.out | apply below_alloc | apply pw_below_drewN | apply below_drew1) | exact HB.out)) hb); clear HB; have HB := n0_; clear n0_; (try clear hb); (try clear hb2); (try clear hk); (try clear hi)))
            go_meet
            case rel => exact ⟨_, (true), (by first | rfl | (simp; done) | (simp [*]; done)), H', ⟨by have := HJ2.out; first | omega | exact Nat.le_refl _⟩, ⟨by repeat (first | (with_reducible first | exact HB.out | apply below_alloc | apply pw_below_drewN | apply below_drew1) | exact HB.out)⟩⟩
        case rest =>
          clear HC13
          try clear c1
          try clear c2
          try clear p2
          try clear c4
          try clear c5
          try clear c8
          try clear c10
          try clear c16
          try clear c16b0
          try clear c16b1
          try clear c17
          try clear c17b0
          try clear c17b1
          try clear c18
          try clear c18b0
          try clear c18b1
          try clear c18b2
          try clear c19
          try clear c20
          try clear c21
          try clear p2
          obtain ⟨kq, x52_12, rfl, HA, HJ12, HB⟩ := hcut
          cases kq with
          | zero => exact absurd HA.out (by simp [dasdlaw11_VariableWords.j1])
          | succ kj12 =>
            have H := HA.out
            clear HA
            simp only [dasdlaw11_VariableWords.j1] at H
            by_cases c32 : x52_12 = true
            · subst c32
              have H1 : (some false) = some r := by rw [if_pos rfl] at H; exact H
              clear H
              have H := H1
              clear H1
              obtain rfl := Option.some.inj H
              go_wp2
              go_ret
              exact ⟨by first | rfl | (simp [errW_none, errW_some] <;> rfl) | (simp [*, errW_none, errW_some] <;> rfl), by repeat (first | (with_reducible first | exact HB.out | apply below_alloc | apply pw_below_drewN | apply below_drew1) | exact HB.out)⟩
            · replace c32 := Bool.eq_false_iff.mpr c32
              subst c32
              have H1 : ((variable_Word.f a0).bind fun t203 => ((variable_ReadWord.f t203).bind fun bt204 => (if a0 ≥ 0 then (if (bt204.2 == (decide (a0 ≤ 65535))) = true then (if bt204.2 = true then (some (bt204.1 == a0)) else (some true)) else (some false)) else (if (bt204.2 == false) = true then (if bt204.2 = true then (some (bt204.1 == a0)) else (some true)) else (some false))))) = some r := by rw [if_neg (show ¬ (false = true) by decide)] at H; exact H
              clear H
              have H := H1
              clear H1
              replace H := Option.bind_eq_some_iff.mp H
              obtain ⟨t203, A330, H⟩ := H
              replace H : ((variable_ReadWord.f t203).bind fun bt204 => (if a0 ≥ 0 then (if (bt204.2 == (decide (a0 ≤ 65535))) = true then (if bt204.2 = true then (some (bt204.1 == a0)) else (some true)) else (some false)) else (if (bt204.2 == false) = true then (if bt204.2 = true then (some (bt204.1 == a0)) else (some true)) else (some false)))) = some r := H
              have A33 := Aside0.mk A330
              clear A330
              replace H := Option.bind_eq_some_iff.mp H
              obtain ⟨⟨t204, t205⟩, A340, H⟩ := H
              replace H : (if a0 ≥ 0 then (if (t205 == (decide (a0 ≤ 65535))) = true then (if t205 = true then (some (t204 == a0)) else (some true)) else (some false)) else (if (t205 == false) = true then (if t205 = true then (some (t204 == a0)) else (some true)) else (some false))) = some r := H
              have A34 := Aside0.mk A340
              clear A340
              by_cases c35 : a0 ≥ 0
              · rw [if_pos c35] at H
                have c35b0 : decide (0 ≤ a0) = true := decide_eq_true c35
                clear c35
                by_cases c36 : (t205 == (decide (a0 ≤ 65535))) = true
                · rw [if_pos c36] at H
                  have c36b0 : (t205 == (decide (a0 ≤ 65535))) = true := c36
                  (try (have c36b1 : decide (t205 = (decide (a0 ≤ 65535))) = true := by simpa using c36))
                  (try (have c36b2 : (t205 == (decide (a0 ≤ 65535))) = true := by simpa using c36))
                  clear c36
                  by_cases c37 : t205 = true
                  · subst c37
                    have H1 : (some (t204 == a0)) = some r := by rw [if_pos rfl] at H; exact H
                    clear H
                    have H := H1
                    clear H1
                    obtain rfl := Option.some.inj H
                    go_wp2_with (first | ((with_reducible refine gate_callee (f := 19) rfl ?_); refine goesL_ (some 55) rfl rfl Try.func19 (by kernel_rfl) rfl #[.int .i64 a0] rfl (by (try simp only [List.map_toArray, List.map_cons, List.map_nil]); first | done | rfl | (simp only [List.length_drop, List.length_take]; rfl)) ?_; (with_reducible refine (variable_Word.calls a0 t203 _ A33.out).mono ?_); rintro e w38 ⟨rfl, hb⟩; refine ⟨_, rfl, ?_⟩; have n0_ := Aside0.mk (below_step (by repeat (first | (with_reducible first | exact HB.out | apply below_alloc | apply pw_below_drewN | apply below_drew1) | exact HB.out)) hb); clear HB; have HB := n0_; clear n0_; (try clear hb); (try clear hb2); (try clear hk); (try clear hi)) | ((with_reducible refine gate_callee (f := 17) rfl ?_); refine goesL_ (some 56) rfl rfl Try.func17 (by kernel_rfl) rfl #[.string t203] rfl (by (try simp only [List.map_toArray, List.map_cons, List.map_nil]); first | done | rfl | (simp only [List.length_drop, List.length_take]; rfl)) ?_; (with_reducible refine (variable_ReadWord.calls t203 t204 true _ A34.out).mono ?_); rintro e w' ⟨rfl, ⟨nd, rfl⟩⟩; refine ⟨_, rfl, ?_⟩))
                    go_ret
                    exact ⟨by first | rfl | (simp [errW_none, errW_some] <;> rfl) | (simp [*, errW_none, errW_some] <;> rfl), by repeat (first | (with_reducible first | exact HB.out | apply below_alloc | apply pw_below_drewN | apply below_drew1) | exact HB.out)⟩
                  · replace c37 := Bool.eq_false_iff.mpr c37
                    subst c37
                    have H1 : (some true) = some r := by rw [if_neg (show ¬ (false = true) by decide)] at H; exact H
                    clear H
                    have H := H1
                    clear H1
                    obtain rfl := Option.some.inj H
                    go_wp2_with (first | ((with_reducible refine gate_callee (f := 19) rfl ?_); refine goesL_ (some 55) rfl rfl Try.func19 (by kernel_rfl) rfl #[.int .i64 a0] rfl (by (try simp only [List.map_toArray, List.map_cons, List.map_nil]); first | done | rfl | (simp only [List.length_drop, List.length_take]; rfl)) ?_; (with_reducible refine (variable_Word.calls a0 t203 _ A33.out).mono ?_); rintro e w39 ⟨rfl, hb⟩; refine ⟨_, rfl, ?_⟩; have n0_ := Aside0.mk (below_step (by repeat (first | (with_reducible first | exact HB.out | apply below_alloc | apply pw_below_drewN | apply below_drew1) | exact HB.out)) hb); clear HB; have HB := n0_; clear n0_; (try clear hb); (try clear hb2); (try clear hk); (try clear hi)) | ((with_reducible refine gate_callee (f := 17) rfl ?_); refine goesL_ (some 56) rfl rfl Try.func17 (by kernel_rfl) rfl #[.string t203] rfl (by (try simp only [List.map_toArray, List.map_cons, List.map_nil]); first | done | rfl | (simp only [List.length_drop, List.length_take]; rfl)) ?_; (with_reducible refine (variable_ReadWord.calls t203 t204 false _ A34.out).mono ?_); rintro e w' ⟨rfl, ⟨nd, rfl⟩⟩; refine ⟨_, rfl, ?_⟩))
                    go_ret
                    exact ⟨by first | rfl | (simp [errW_none, errW_some] <;> rfl) | (simp [*, errW_none, errW_some] <;> rfl), by repeat (first | (with_reducible first | exact HB.out | apply below_alloc | apply pw_below_drewN | apply below_drew1) | exact HB.out)⟩
                · rw [if_neg c36] at H
                  have c36b0 : (t205 == (decide (a0 ≤ 65535))) = false := by simpa using c36
                  (try (have c36b1 : decide (t205 = (decide (a0 ≤ 65535))) = false := by simpa using c36))
                  (try (have c36b2 : (t205 == (decide (a0 ≤ 65535))) = false := by simpa using c36))
                  (try (have c36b3 : ¬ (t205 = (decide (a0 ≤ 65535))) := by simpa using c36))
                  clear c36
                  obtain rfl := Option.some.inj H
                  go_wp2_with (first | ((with_reducible refine gate_callee (f := 19) rfl ?_); refine goesL_ (some 55) rfl rfl Try.func19 (by kernel_rfl) rfl #[.int .i64 a0] rfl (by (try simp only [List.map_toArray, List.map_cons, List.map_nil]); first | done | rfl | (simp only [List.length_drop, List.length_take]; rfl)) ?_; (with_reducible refine (variable_Word.calls a0 t203 _ A33.out).mono ?_); rintro e w40 ⟨rfl, hb⟩; refine ⟨_, rfl, ?_⟩; have n0_ := Aside0.mk (below_step (by repeat (first | (with_reducible first | exact HB.out | apply below_alloc | apply pw_below_drewN | apply below_drew1) | exact HB.out)) hb); clear HB; have HB := n0_; clear n0_; (try clear hb); (try clear hb2); (try clear hk); (try clear hi)) | ((with_reducible refine gate_callee (f := 17) rfl ?_); refine goesL_ (some 56) rfl rfl Try.func17 (by kernel_rfl) rfl #[.string t203] rfl (by (try simp only [List.map_toArray, List.map_cons, List.map_nil]); first | done | rfl | (simp only [List.length_drop, List.length_take]; rfl)) ?_; (with_reducible refine (variable_ReadWord.calls t203 t204 t205 _ A34.out).mono ?_); rintro e w' ⟨rfl, ⟨nd, rfl⟩⟩; refine ⟨_, rfl, ?_⟩))
                  go_ret
                  exact ⟨by first | rfl | (simp [errW_none, errW_some] <;> rfl) | (simp [*, errW_none, errW_some] <;> rfl), by repeat (first | (with_reducible first | exact HB.out | apply below_alloc | apply pw_below_drewN | apply below_drew1) | exact HB.out)⟩
              · rw [if_neg c35] at H
                have c35b0 : decide (0 ≤ a0) = false := decide_eq_false c35
                clear c35
                by_cases c41 : (t205 == false) = true
                · rw [if_pos c41] at H
                  have c41b0 : (t205 == false) = true := c41
                  (try (have c41b1 : decide (t205 = false) = true := by simpa using c41))
                  (try (have c41b2 : (t205 == false) = true := by simpa using c41))
                  clear c41
                  by_cases c42 : t205 = true
                  · subst c42
                    have H1 : (some (t204 == a0)) = some r := by rw [if_pos rfl] at H; exact H
                    clear H
                    have H := H1
                    clear H1
                    obtain rfl := Option.some.inj H
                    go_wp2_with (first | ((with_reducible refine gate_callee (f := 19) rfl ?_); refine goesL_ (some 55) rfl rfl Try.func19 (by kernel_rfl) rfl #[.int .i64 a0] rfl (by (try simp only [List.map_toArray, List.map_cons, List.map_nil]); first | done | rfl | (simp only [List.length_drop, List.length_take]; rfl)) ?_; (with_reducible refine (variable_Word.calls a0 t203 _ A33.out).mono ?_); rintro e w43 ⟨rfl, hb⟩; refine ⟨_, rfl, ?_⟩; have n0_ := Aside0.mk (below_step (by repeat (first | (with_reducible first | exact HB.out | apply below_alloc | apply pw_below_drewN | apply below_drew1) | exact HB.out)) hb); clear HB; have HB := n0_; clear n0_; (try clear hb); (try clear hb2); (try clear hk); (try clear hi)) | ((with_reducible refine gate_callee (f := 17) rfl ?_); refine goesL_ (some 56) rfl rfl Try.func17 (by kernel_rfl) rfl #[.string t203] rfl (by (try simp only [List.map_toArray, List.map_cons, List.map_nil]); first | done | rfl | (simp only [List.length_drop, List.length_take]; rfl)) ?_; (with_reducible refine (variable_ReadWord.calls t203 t204 true _ A34.out).mono ?_); rintro e w' ⟨rfl, ⟨nd, rfl⟩⟩; refine ⟨_, rfl, ?_⟩))
                    go_ret
                    exact ⟨by first | rfl | (simp [errW_none, errW_some] <;> rfl) | (simp [*, errW_none, errW_some] <;> rfl), by repeat (first | (with_reducible first | exact HB.out | apply below_alloc | apply pw_below_drewN | apply below_drew1) | exact HB.out)⟩
                  · replace c42 := Bool.eq_false_iff.mpr c42
                    subst c42
                    have H1 : (some true) = some r := by rw [if_neg (show ¬ (false = true) by decide)] at H; exact H
                    clear H
                    have H := H1
                    clear H1
                    obtain rfl := Option.some.inj H
                    go_wp2_with (first | ((with_reducible refine gate_callee (f := 19) rfl ?_); refine goesL_ (some 55) rfl rfl Try.func19 (by kernel_rfl) rfl #[.int .i64 a0] rfl (by (try simp only [List.map_toArray, List.map_cons, List.map_nil]); first | done | rfl | (simp only [List.length_drop, List.length_take]; rfl)) ?_; (with_reducible refine (variable_Word.calls a0 t203 _ A33.out).mono ?_); rintro e w44 ⟨rfl, hb⟩; refine ⟨_, rfl, ?_⟩; have n0_ := Aside0.mk (below_step (by repeat (first | (with_reducible first | exact HB.out | apply below_alloc | apply pw_below_drewN | apply below_drew1) | exact HB.out)) hb); clear HB; have HB := n0_; clear n0_; (try clear hb); (try clear hb2); (try clear hk); (try clear hi)) | ((with_reducible refine gate_callee (f := 17) rfl ?_); refine goesL_ (some 56) rfl rfl Try.func17 (by kernel_rfl) rfl #[.string t203] rfl (by (try simp only [List.map_toArray, List.map_cons, List.map_nil]); first | done | rfl | (simp only [List.length_drop, List.length_take]; rfl)) ?_; (with_reducible refine (variable_ReadWord.calls t203 t204 false _ A34.out).mono ?_); rintro e w' ⟨rfl, ⟨nd, rfl⟩⟩; refine ⟨_, rfl, ?_⟩))
                    go_ret
                    exact ⟨by first | rfl | (simp [errW_none, errW_some] <;> rfl) | (simp [*, errW_none, errW_some] <;> rfl), by repeat (first | (with_reducible first | exact HB.out | apply below_alloc | apply pw_below_drewN | apply below_drew1) | exact HB.out)⟩
                · rw [if_neg c41] at H
                  have c41b0 : (t205 == false) = false := by simpa using c41
                  (try (have c41b1 : decide (t205 = false) = false := by simpa using c41))
                  (try (have c41b2 : (t205 == false) = false := by simpa using c41))
                  (try (have c41b3 : ¬ (t205 = false) := by simpa using c41))
                  clear c41
                  obtain rfl := Option.some.inj H
                  go_wp2_with (first | ((with_reducible refine gate_callee (f := 19) rfl ?_); refine goesL_ (some 55) rfl rfl Try.func19 (by kernel_rfl) rfl #[.int .i64 a0] rfl (by (try simp only [List.map_toArray, List.map_cons, List.map_nil]); first | done | rfl | (simp only [List.length_drop, List.length_take]; rfl)) ?_; (with_reducible refine (variable_Word.calls a0 t203 _ A33.out).mono ?_); rintro e w45 ⟨rfl, hb⟩; refine ⟨_, rfl, ?_⟩; have n0_ := Aside0.mk (below_step (by repeat (first | (with_reducible first | exact HB.out | apply below_alloc | apply pw_below_drewN | apply below_drew1) | exact HB.out)) hb); clear HB; have HB := n0_; clear n0_; (try clear hb); (try clear hb2); (try clear hk); (try clear hi)) | ((with_reducible refine gate_callee (f := 17) rfl ?_); refine goesL_ (some 56) rfl rfl Try.func17 (by kernel_rfl) rfl #[.string t203] rfl (by (try simp only [List.map_toArray, List.map_cons, List.map_nil]); first | done | rfl | (simp only [List.length_drop, List.length_take]; rfl)) ?_; (with_reducible refine (variable_ReadWord.calls t203 t204 t205 _ A34.out).mono ?_); rintro e w' ⟨rfl, ⟨nd, rfl⟩⟩; refine ⟨_, rfl, ?_⟩))
                  go_ret
                  exact ⟨by first | rfl | (simp [errW_none, errW_some] <;> rfl) | (simp [*, errW_none, errW_some] <;> rfl), by repeat (first | (with_reducible first | exact HB.out | apply below_alloc | apply pw_below_drewN | apply below_drew1) | exact HB.out)⟩

/-- THE ONE PURE STATEMENT of dasdlaw11_VariableWords: yours. -/
def dasdlaw11_VariableWords.Pure : Prop := ∀ (a0 : Int) (a1 : ByteArray), (Lit.int .i64 a0).wf = true → a1.size ≤ 140737488351232 → ∃ k, dasdlaw11_VariableWords.f k a0 a1 = some true
theorem dasdlaw11_VariableWords.walk (P : dasdlaw11_VariableWords.Pure) (a0 : Int) (a1 : ByteArray) (w : World) (w0 : (Lit.int .i64 a0).wf = true) (w1 : a1.size ≤ 140737488351232) :
    Calls Try.prog 4 #[.int .i64 a0, .string a1] w fun e w' => e = .returned (.bool true) ∧ Below w.heap.size w w' := by
  obtain ⟨k, h⟩ := P a0 a1 w0 w1
  refine (dasdlaw11_VariableWords.calls k a0 a1 true w h).mono ?_
  rintro e w' ⟨rfl, hd⟩
  exact ⟨rfl, hd⟩

end Go.Proofs.Ytkjookpcknhicaa.PG

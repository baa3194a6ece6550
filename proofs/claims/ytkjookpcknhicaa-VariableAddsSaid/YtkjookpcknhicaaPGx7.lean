/- Functions of the program as plain Lean functions and the proofs that the Go code computes them, or a row out of them: written by a program of this session (a turned copy of the kit's print; some functions are given by hand). -/
import Derived.Test.YtkjookpcknhicaaPGx0
import Derived.Test.YtkjookpcknhicaaPGx1
import Derived.Test.YtkjookpcknhicaaPGx5
namespace Go.Proofs.Ytkjookpcknhicaa.PG
open Go.RowKit Go.Proofs.YtkjookpcknhicaaW.PrintWords Go.Proofs.YtkjookpcknhicaaW.PrintLast Go.Proofs.YtkjookpcknhicaaW.PrintMore
attribute [local go_sem] max2_int min2_int max_two min_two max_three min_three max_four min_four   -- for this text's walks alone
set_option linter.unusedVariables false
set_option linter.unusedSimpArgs false

/-! ### variable_first: function 32 -/
def variable_first.f (a0 : Int) (a1 : ByteArray) : Option (ByteArray × ByteArray × Bool) := if (a1.size : Int) < 4 then (some ((⟨#[]⟩ : ByteArray), (⟨#[]⟩ : ByteArray), false)) else (if 0 ≤ 4 then (if 4 ≤ (a1.size : Int) then ((variable_ReadWord.f (a1.extract 0 4)).bind fun bt206 => (if bt206.2 = true then (if bt206.1 < 4 then (some ((⟨#[]⟩ : ByteArray), (⟨#[]⟩ : ByteArray), false)) else (if bt206.1 > (a1.size : Int) then (some ((⟨#[]⟩ : ByteArray), (⟨#[]⟩ : ByteArray), false)) else (if (wrap64 (bt206.1 - 4)) > a0 then (some ((⟨#[]⟩ : ByteArray), (⟨#[]⟩ : ByteArray), false)) else (if 4 ≤ bt206.1 then (if bt206.1 ≤ (a1.size : Int) then (if 0 ≤ bt206.1 then (some (a1.extract 4 (bt206.1 : Int).toNat, a1.extract (bt206.1 : Int).toNat a1.size, true)) else (none)) else (none)) else (none))))) else (some ((⟨#[]⟩ : ByteArray), (⟨#[]⟩ : ByteArray), false)))) else (none)) else (none))
set_option maxHeartbeats 8000000 in
set_option maxRecDepth 100000 in
theorem variable_first.calls (a0 : Int) (a1 : ByteArray) (r1 : ByteArray) (r2 : ByteArray) (r3 : Bool) (w : World) (h : variable_first.f a0 a1 = some (r1, r2, r3)) :
    Calls Try.prog 32 #[.int .i64 a0, .string a1] w fun e w' => e = .returned (.tuple #[.string r1, .string r2, .bool r3]) ∧ Drawn0 w w' := by
  have H : (if (a1.size : Int) < 4 then (some ((⟨#[]⟩ : ByteArray), (⟨#[]⟩ : ByteArray), false)) else (if 0 ≤ 4 then (if 4 ≤ (a1.size : Int) then ((variable_ReadWord.f (a1.extract 0 4)).bind fun bt206 => (if bt206.2 = true then (if bt206.1 < 4 then (some ((⟨#[]⟩ : ByteArray), (⟨#[]⟩ : ByteArray), false)) else (if bt206.1 > (a1.size : Int) then (some ((⟨#[]⟩ : ByteArray), (⟨#[]⟩ : ByteArray), false)) else (if (wrap64 (bt206.1 - 4)) > a0 then (some ((⟨#[]⟩ : ByteArray), (⟨#[]⟩ : ByteArray), false)) else (if 4 ≤ bt206.1 then (if bt206.1 ≤ (a1.size : Int) then (if 0 ≤ bt206.1 then (some (a1.extract 4 (bt206.1 : Int).toNat, a1.extract (bt206.1 : Int).toNat a1.size, true)) else (none)) else (none)) else (none))))) else (some ((⟨#[]⟩ : ByteArray), (⟨#[]⟩ : ByteArray), false)))) else (none)) else (none))) = some (r1, r2, r3) := h
  clear h
  by_cases c3 : (a1.size : Int) < 4
  · rw [if_pos c3] at H
    have c3b0 : decide ((a1.size : Int) < 4) = true := decide_eq_true c3
    have c3b1 : decide (a1.size < 4) = true := decide_eq_true (by omega)
    clear c3
    simp only [Option.some.injEq, Prod.mk.injEq] at H
    obtain ⟨rfl, rfl, rfl⟩ := H
    go_enter Try.func32, Try.ntmps32
    go_wp2
    repeat (go_quiet (fail); try go_wp2)
    go_ret3
    exact ⟨by first | rfl | (simp; done) | (simp [*]; done), by repeat (first | exact Drawn0.refl _ | apply Drawn0.step)⟩
  · rw [if_neg c3] at H
    have c3b0 : decide ((a1.size : Int) < 4) = false := decide_eq_false c3
    have c3b1 : decide (a1.size < 4) = false := decide_eq_false (by omega)
    clear c3
    by_cases c4 : 0 ≤ 4
    · rw [if_pos c4] at H
      have c4b0 := eq_true c4
      have c4b1 : decide (0 ≤ 4) = true := decide_eq_true c4
      clear c4
      by_cases c5 : 4 ≤ (a1.size : Int)
      · rw [if_pos c5] at H
        have c5b0 := eq_true c5
        have c5b1 : decide (4 ≤ (a1.size : Int)) = true := decide_eq_true c5
        clear c5
        replace H := Option.bind_eq_some_iff.mp H
        obtain ⟨⟨t206, t207⟩, A60, H⟩ := H
        replace H : (if t207 = true then (if t206 < 4 then (some ((⟨#[]⟩ : ByteArray), (⟨#[]⟩ : ByteArray), false)) else (if t206 > (a1.size : Int) then (some ((⟨#[]⟩ : ByteArray), (⟨#[]⟩ : ByteArray), false)) else (if (wrap64 (t206 - 4)) > a0 then (some ((⟨#[]⟩ : ByteArray), (⟨#[]⟩ : ByteArray), false)) else (if 4 ≤ t206 then (if t206 ≤ (a1.size : Int) then (if 0 ≤ t206 then (some (a1.extract 4 (t206 : Int).toNat, a1.extract (t206 : Int).toNat a1.size, true)) else (none)) else (none)) else (none))))) else (some ((⟨#[]⟩ : ByteArray), (⟨#[]⟩ : ByteArray), false))) = some (r1, r2, r3) := H
        have A6 := Aside0.mk A60
        clear A60
        by_cases c7 : t207 = true
        · subst c7
          have H1 : (if t206 < 4 then (some ((⟨#[]⟩ : ByteArray), (⟨#[]⟩ : ByteArray), false)) else (if t206 > (a1.size : Int) then (some ((⟨#[]⟩ : ByteArray), (⟨#[]⟩ : ByteArray), false)) else (if (wrap64 (t206 - 4)) > a0 then (some ((⟨#[]⟩ : ByteArray), (⟨#[]⟩ : ByteArray), false)) else (if 4 ≤ t206 then (if t206 ≤ (a1.size : Int) then (if 0 ≤ t206 then (some (a1.extract 4 (t206 : Int).toNat, a1.extract (t206 : Int).toNat a1.size, true)) else (none)) else (none)) else (none))))) = some (r1, r2, r3) := by rw [if_pos rfl] at H; exact H
          clear H
          have H := H1
          clear H1
          by_cases c8 : t206 < 4
          · rw [if_pos c8] at H
            have c8b0 : decide (t206 < 4) = true := decide_eq_true c8
            clear c8
            simp only [Option.some.injEq, Prod.mk.injEq] at H
            obtain ⟨rfl, rfl, rfl⟩ := H
            go_enter Try.func32, Try.ntmps32
            go_wp2_with (first | (go_at_call 17; (with_reducible refine (variable_ReadWord.calls (a1.extract 0 4) t206 true _ A6.out).mono ?_); rintro e w' ⟨rfl, ⟨nd, rfl⟩⟩; (try first | exact ⟨rfl, _, World.drewN_drewN _ _ _⟩ | exact ⟨rfl, _, Eq.trans (World.drewN_drewN _ _ _) (congrArg (World.drewN _) (Nat.add_assoc _ _ _))⟩)))
            repeat (go_quiet (first | (go_at_call 17; (with_reducible refine (variable_ReadWord.calls (a1.extract 0 4) t206 true _ A6.out).mono ?_); rintro e w' ⟨rfl, ⟨nd, rfl⟩⟩; (try first | exact ⟨rfl, _, World.drewN_drewN _ _ _⟩ | exact ⟨rfl, _, Eq.trans (World.drewN_drewN _ _ _) (congrArg (World.drewN _) (Nat.add_assoc _ _ _))⟩))); try go_wp2_with (first | (go_at_call 17; (with_reducible refine (variable_ReadWord.calls (a1.extract 0 4) t206 true _ A6.out).mono ?_); rintro e w' ⟨rfl, ⟨nd, rfl⟩⟩; (try first | exact ⟨rfl, _, World.drewN_drewN _ _ _⟩ | exact ⟨rfl, _, Eq.trans (World.drewN_drewN _ _ _) (congrArg (World.drewN _) (Nat.add_assoc _ _ _))⟩))))
            go_ret3
            exact ⟨by first | rfl | (simp; done) | (simp [*]; done), by repeat (first | exact Drawn0.refl _ | apply Drawn0.step)⟩
          · rw [if_neg c8] at H
            have c8b0 : decide (t206 < 4) = false := decide_eq_false c8
            clear c8
            by_cases c9 : t206 > (a1.size : Int)
            · rw [if_pos c9] at H
              have c9b0 : decide ((a1.size : Int) < t206) = true := decide_eq_true c9
              clear c9
              simp only [Option.some.injEq, Prod.mk.injEq] at H
              obtain ⟨rfl, rfl, rfl⟩ := H
              go_enter Try.func32, Try.ntmps32
              go_wp2_with (first | (go_at_call 17; (with_reducible refine (variable_ReadWord.calls (a1.extract 0 4) t206 true _ A6.out).mono ?_); rintro e w' ⟨rfl, ⟨nd, rfl⟩⟩; (try first | exact ⟨rfl, _, World.drewN_drewN _ _ _⟩ | exact ⟨rfl, _, Eq.trans (World.drewN_drewN _ _ _) (congrArg (World.drewN _) (Nat.add_assoc _ _ _))⟩)))
              repeat (go_quiet (first | (go_at_call 17; (with_reducible refine (variable_ReadWord.calls (a1.extract 0 4) t206 true _ A6.out).mono ?_); rintro e w' ⟨rfl, ⟨nd, rfl⟩⟩; (try first | exact ⟨rfl, _, World.drewN_drewN _ _ _⟩ | exact ⟨rfl, _, Eq.trans (World.drewN_drewN _ _ _) (congrArg (World.drewN _) (Nat.add_assoc _ _ _))⟩))); try go_wp2_with (first | (go_at_call 17; (with_reducible refine (variable_ReadWord.calls (a1.extract 0 4) t206 true _ A6.out).mono ?_); rintro e w' ⟨rfl, ⟨nd, rfl⟩⟩; (try first | exact ⟨rfl, _, World.drewN_drewN _ _ _⟩ | exact ⟨rfl, _, Eq.trans (World.drewN_drewN _ _ _) (congrArg (World.drewN _) (Nat.add_assoc _ _ _))⟩))))
              go_ret3
              exact ⟨by first | rfl | (simp; done) | (simp [*]; done), by repeat (first | exact Drawn0.refl _ | apply Drawn0.step)⟩
            · rw [if_neg c9] at H
              have c9b0 : decide ((a1.size : Int) < t206) = false := decide_eq_false c9
              clear c9
              by_cases c10 : (wrap64 (t206 - 4)) > a0
              · rw [if_pos c10] at H
                have c10b0 : decide (a0 < (wrap64 (t206 - 4))) = true := decide_eq_true c10
                clear c10
                simp only [Option.some.injEq, Prod.mk.injEq] at H
                obtain ⟨rfl, rfl, rfl⟩ := H
                go_enter Try.func32, Try.ntmps32
                go_wp2_with (first | (go_at_call 17; (with_reducible refine (variable_ReadWord.calls (a1.extract 0 4) t206 true _ A6.out).mono ?_); rintro e w' ⟨rfl, ⟨nd, rfl⟩⟩; (try first | exact ⟨rfl, _, World.drewN_drewN _ _ _⟩ | exact ⟨rfl, _, Eq.trans (World.drewN_drewN _ _ _) (congrArg (World.drewN _) (Nat.add_assoc _ _ _))⟩)))
                repeat (go_quiet (first | (go_at_call 17; (with_reducible refine (variable_ReadWord.calls (a1.extract 0 4) t206 true _ A6.out).mono ?_); rintro e w' ⟨rfl, ⟨nd, rfl⟩⟩; (try first | exact ⟨rfl, _, World.drewN_drewN _ _ _⟩ | exact ⟨rfl, _, Eq.trans (World.drewN_drewN _ _ _) (congrArg (World.drewN _) (Nat.add_assoc _ _ _))⟩))); try go_wp2_with (first | (go_at_call 17; (with_reducible refine (variable_ReadWord.calls (a1.extract 0 4) t206 true _ A6.out).mono ?_); rintro e w' ⟨rfl, ⟨nd, rfl⟩⟩; (try first | exact ⟨rfl, _, World.drewN_drewN _ _ _⟩ | exact ⟨rfl, _, Eq.trans (World.drewN_drewN _ _ _) (congrArg (World.drewN _) (Nat.add_assoc _ _ _))⟩))))
                go_ret3
                exact ⟨by first | rfl | (simp; done) | (simp [*]; done), by repeat (first | exact Drawn0.refl _ | apply Drawn0.step)⟩
              · rw [if_neg c10] at H
                have c10b0 : decide (a0 < (wrap64 (t206 - 4))) = false := decide_eq_false c10
                clear c10
                by_cases c11 : 4 ≤ t206
                · rw [if_pos c11] at H
                  have c11b0 := eq_true c11
                  have c11b1 : decide (4 ≤ t206) = true := decide_eq_true c11
                  clear c11
                  by_cases c12 : t206 ≤ (a1.size : Int)
                  · rw [if_pos c12] at H
                    have c12b0 := eq_true c12
                    have c12b1 : decide (t206 ≤ (a1.size : Int)) = true := decide_eq_true c12
                    clear c12
                    by_cases c13 : 0 ≤ t206
                    · rw [if_pos c13] at H
                      have c13b0 := eq_true c13
                      have c13b1 : decide (0 ≤ t206) = true := decide_eq_true c13
                      clear c13
                      have c14b0 := eq_true (of_decide_eq_true (by first | (with_reducible assumption) | assumption) : t206 ≤ (a1.size : Int))
                      simp only [Option.some.injEq, Prod.mk.injEq] at H
                      obtain ⟨rfl, rfl, rfl⟩ := H
                      go_enter Try.func32, Try.ntmps32
                      go_wp2_with (first | (go_at_call 17; (with_reducible refine (variable_ReadWord.calls (a1.extract 0 4) t206 true _ A6.out).mono ?_); rintro e w' ⟨rfl, ⟨nd, rfl⟩⟩; (try first | exact ⟨rfl, _, World.drewN_drewN _ _ _⟩ | exact ⟨rfl, _, Eq.trans (World.drewN_drewN _ _ _) (congrArg (World.drewN _) (Nat.add_assoc _ _ _))⟩)))
                      repeat (go_quiet (first | (go_at_call 17; (with_reducible refine (variable_ReadWord.calls (a1.extract 0 4) t206 true _ A6.out).mono ?_); rintro e w' ⟨rfl, ⟨nd, rfl⟩⟩; (try first | exact ⟨rfl, _, World.drewN_drewN _ _ _⟩ | exact ⟨rfl, _, Eq.trans (World.drewN_drewN _ _ _) (congrArg (World.drewN _) (Nat.add_assoc _ _ _))⟩))); try go_wp2_with (first | (go_at_call 17; (with_reducible refine (variable_ReadWord.calls (a1.extract 0 4) t206 true _ A6.out).mono ?_); rintro e w' ⟨rfl, ⟨nd, rfl⟩⟩; (try first | exact ⟨rfl, _, World.drewN_drewN _ _ _⟩ | exact ⟨rfl, _, Eq.trans (World.drewN_drewN _ _ _) (congrArg (World.drewN _) (Nat.add_assoc _ _ _))⟩))))
                      go_ret3
                      exact ⟨by first | rfl | (simp; done) | (simp [*]; done), by repeat (first | exact Drawn0.refl _ | apply Drawn0.step)⟩
                    · rw [if_neg c13] at H
                      exact absurd H (by simp)
                  · rw [if_neg c12] at H
                    exact absurd H (by simp)
                · rw [if_neg c11] at H
                  exact absurd H (by simp)
        · replace c7 := Bool.eq_false_iff.mpr c7
          subst c7
          have H1 : (some ((⟨#[]⟩ : ByteArray), (⟨#[]⟩ : ByteArray), false)) = some (r1, r2, r3) := by rw [if_neg (show ¬ (false = true) by decide)] at H; exact H
          clear H
          have H := H1
          clear H1
          simp only [Option.some.injEq, Prod.mk.injEq] at H
          obtain ⟨rfl, rfl, rfl⟩ := H
          go_enter Try.func32, Try.ntmps32
          go_wp2_with (first | (go_at_call 17; (with_reducible refine (variable_ReadWord.calls (a1.extract 0 4) t206 false _ A6.out).mono ?_); rintro e w' ⟨rfl, ⟨nd, rfl⟩⟩; (try first | exact ⟨rfl, _, World.drewN_drewN _ _ _⟩ | exact ⟨rfl, _, Eq.trans (World.drewN_drewN _ _ _) (congrArg (World.drewN _) (Nat.add_assoc _ _ _))⟩)))
          repeat (go_quiet (first | (go_at_call 17; (with_reducible refine (variable_ReadWord.calls (a1.extract 0 4) t206 false _ A6.out).mono ?_); rintro e w' ⟨rfl, ⟨nd, rfl⟩⟩; (try first | exact ⟨rfl, _, World.drewN_drewN _ _ _⟩ | exact ⟨rfl, _, Eq.trans (World.drewN_drewN _ _ _) (congrArg (World.drewN _) (Nat.add_assoc _ _ _))⟩))); try go_wp2_with (first | (go_at_call 17; (with_reducible refine (variable_ReadWord.calls (a1.extract 0 4) t206 false _ A6.out).mono ?_); rintro e w' ⟨rfl, ⟨nd, rfl⟩⟩; (try first | exact ⟨rfl, _, World.drewN_drewN _ _ _⟩ | exact ⟨rfl, _, Eq.trans (World.drewN_drewN _ _ _) (congrArg (World.drewN _) (Nat.add_assoc _ _ _))⟩))))
          go_ret3
          exact ⟨by first | rfl | (simp; done) | (simp [*]; done), by repeat (first | exact Drawn0.refl _ | apply Drawn0.step)⟩
      · rw [if_neg c5] at H
        exact absurd H (by simp)
    · rw [if_neg c4] at H
      exact absurd H (by simp)

/-! ### variable_Unpack: function 21 -/
/-- Behind the closure's call: the boxes, the row, the world. -/
def NextPost (len : Int) (w0 : World) (lb ob : Nat) (out : List ByteArray) (w' : World) : Prop :=
  ∃ v', w'.heap[lb]? = some (.cells #[.int .i64 len] 3 (0, 0)) ∧ w'.heap[ob]? = some (.cells #[v'] 22 (0, 0)) ∧ Kd.R Kd.string 9 w' w0.heap.size (fun _ => True) v' out ∧ Below w0.heap.size w0 w'

set_option maxHeartbeats 400000 in
set_option maxRecDepth 100000 in
theorem next_calls (len : Int) (forms r rest : ByteArray) (b : Bool) (out : List ByteArray) (w0 w : World) (lb ob : Nat) (v : Value)
    (hl : w.heap[lb]? = some (.cells #[.int .i64 len] 3 (0, 0))) (ho : w.heap[ob]? = some (.cells #[v] 22 (0, 0)))
    (hR : Kd.R Kd.string 9 w w0.heap.size (fun _ => True) v out) (hB : Below w0.heap.size w0 w) (hlb : w0.heap.size ≤ lb) (hob : w0.heap.size ≤ ob)
    (hlim : out.length < 8796093022208) (h : variable_first.f len forms = some (r, rest, b)) :
    Calls Try.prog 31 #[.string forms, .pointer (some ⟨lb, 0, none⟩), .pointer (some ⟨ob, 0, none⟩)] w fun e w' => e = .returned (.tuple #[.string rest, .bool b]) ∧ NextPost len w0 lb ob (out ++ [r]) w' := by
  obtain ⟨A, c, rfl⟩ := Kd.R_slice hR
  have HL := Aside0.mk hl
  have HO := Aside0.mk ho
  have HR := Aside0.mk hR
  have HB := Aside0.mk hB
  have HF := Aside0.mk h
  have cl : w.cell? ⟨lb, 0, none⟩ = some (.int .i64 len) := by rw [blk_cell hl]; rfl
  clear hl ho hR hB h
  go_enter Try.func31, Try.ntmps31
  go_wp2_with fail
  with_reducible refine (variable_first.calls len forms r rest b _ HF.out).mono ?_
  rintro e w4 ⟨rfl, ⟨nd, rfl⟩⟩
  have cob : (w.drewN nd).cell? ⟨ob, 0, none⟩ = some (.slice A out.length c) := by rw [show (w.drewN nd).cell? ⟨ob, 0, none⟩ = w.cell? ⟨ob, 0, none⟩ from rfl, blk_cell HO.out]; rfl
  have HB2 := Aside0.mk (pw_below_drewN HB.out nd)
  have HR2 := Aside0.mk (Kd.R_drewN HR.out nd)
  have fob : (w.drewN nd).frozen? ⟨ob, 0, none⟩ = false := blk_frozen HO.out 0
  have hne : lb ≠ ob := blk_ne HL.out HO.out (by decide)
  go_wp2_with (first | ((with_reducible refine gate_builtin (b := .append) (xs := #[.tmp 16, .tmp 18]) rfl ?_); at_builtin; go_loud (refine Kd.R_append Kd.string (w0 := w0) w0.heap.size rfl (.tmp 16) (.tmp 18) 22 9 (.string ⟨#[]⟩) 16 rfl Try.underlying22 info9 rfl (by decide) (by omega) (.slice A out.length c) out r [.string r] (fun _ => True) (fun _ => False) rfl rfl ?aP (fun _ hk => hk.elim) ?aF ?aO ?aB ?aS ?aL ?_); (case aP => exact rfl); (case aB => exact HB2.out); (case aF => exact (fun _ _ => trivial)); (case aO => exact HR2.out); (case aS => exact HB2.out.size); (case aL => omega); intro v1 w1 ho hb hg hat; have HO1 := Aside0.mk (blk_grown (blk_drewN HO.out nd) hg (Kd.R_ne HR2.out (blk_drewN HO.out nd) (by decide))); have HL1 := Aside0.mk (blk_grown (blk_drewN HL.out nd) hg (Kd.R_ne HR2.out (blk_drewN HL.out nd) (by decide))); have HRO := Aside0.mk ho; have HBO := Aside0.mk hb; clear ho hb hg hat; have cob1 : w1.cell? ⟨ob, 0, none⟩ = some (.slice A out.length c) := (by rw [blk_cell HO1.out]; rfl); have fob1 : w1.frozen? ⟨ob, 0, none⟩ = false := blk_frozen HO1.out 0; obtain ⟨A1, c1, hv1⟩ := Kd.R_slice HRO.out; rw [show (out ++ [r]).length = out.length + 1 from List.length_append] at hv1; subst hv1; clear cob fob))
  go_ret2
  exact ⟨rfl, _, blk_far HL1.out hne _, blk_set HO1.out 0 _, Kd.R_set HRO.out HO1.out (by decide) 0 _, HBO.out.setCell hob _⟩

def variable_Unpack.l0 : Nat → Int → List ByteArray → ByteArray → Option (List ByteArray × Int)
  | 0, _, _, _ => none
  | k + 1, x0, x10, x12 => if x12.toList = ([] : List UInt8) then (some (x10, 0)) else (if x10.length < 8796093022208 then ((variable_first.f x0 x12).bind fun bt => (if bt.2.2 = true then (variable_Unpack.l0 k x0 (x10 ++ [bt.1]) bt.2.1) else (some (([] : List ByteArray), 11)))) else (none))
def variable_Unpack.f (k : Nat) (a0 : Int) (a1 : Int) (a2 : ByteArray) : Option (List ByteArray × Int) := (variable_Valid.f a0 a1).bind fun t => (if t = true then (if (a2.size : Int) ≤ 4 then (some (([] : List ByteArray), 11)) else (if (a2.size : Int) > a1 then (some (([] : List ByteArray), 11)) else ((variable_ReadWord.f (a2.extract 0 4)).bind fun bt => (if bt.2 = true then (if bt.1 = (a2.size : Int) then (variable_Unpack.l0 k a0 ([] : List ByteArray) (a2.extract 4 a2.size)) else (some (([] : List ByteArray), 11))) else (some (([] : List ByteArray), 11)))))) else (some (([] : List ByteArray), 1)))
theorem variable_Unpack.mono_l : ∀ k, (∀ y0 y1 y2, LeO (variable_Unpack.l0 k y0 y1 y2) (variable_Unpack.l0 (k + 1) y0 y1 y2))
  | 0 => fun _ _ _ r h => by simp [variable_Unpack.l0] at h
  | k + 1 => by
    have ih0 := variable_Unpack.mono_l k
    intro y0 y1 y2
    unfold variable_Unpack.l0
    refine LeO.ite (LeO.refl _) (LeO.ite (LeO.bind (LeO.refl _) (fun _ => LeO.ite (ih0 _ _ _) (LeO.refl _))) (LeO.none _))
theorem variable_Unpack.mono : ∀ a0 a1 a2 k, LeO (variable_Unpack.f k a0 a1 a2) (variable_Unpack.f (k + 1) a0 a1 a2) := by
  intro a0 a1 a2 k
  have ih0 := variable_Unpack.mono_l k
  unfold variable_Unpack.f
  exact LeO.bind (LeO.refl _) (fun _ => LeO.ite (LeO.ite (LeO.refl _) (LeO.ite (LeO.refl _) (LeO.bind (LeO.refl _) (fun _ => LeO.ite (LeO.ite (ih0 _ _ _) (LeO.refl _)) (LeO.refl _))))) (LeO.refl _))

set_option maxHeartbeats 1000000 in
set_option maxRecDepth 100000 in
theorem variable_Unpack.calls (k : Nat) (a0 : Int) (a1 : Int) (a2 : ByteArray) (r1 : List ByteArray) (r2 : Int) (w : World) (h : variable_Unpack.f k a0 a1 a2 = some (r1, r2)) :
    Calls Try.prog 21 #[.int .i64 a0, .int .i64 a1, .string a2] w fun e w' => ∃ v0_ : Value, e = .returned (.tuple #[v0_, .int .i64 r2]) ∧ Kd.R Kd.string 9 w' w.heap.size (fun _ => True) v0_ r1 ∧ Below w.heap.size w w' := by
  have HB := Aside0.mk (Below.refl w.heap.size w)
  unfold variable_Unpack.f at h
  replace h := Option.bind_eq_some_iff.mp h
  obtain ⟨t, A1_, h⟩ := h
  have A1 := Aside0.mk A1_
  clear A1_
  cases t with
  | false =>
    rw [if_neg (by decide)] at h
    simp only [Option.some.injEq, Prod.mk.injEq] at h
    obtain ⟨rfl, rfl⟩ := h
    go_enter Try.func21, Try.ntmps21
    go_wp2_with fail
    with_reducible refine (variable_Valid.calls a0 a1 false _ A1.out).mono ?_
    rintro e w4 ⟨rfl, ⟨nd, rfl⟩⟩
    go_wp2_with fail
    go_ret2
    exact ⟨_, rfl, Kd.R_nil _ _ _ _ _, pw_below_drewN (below_alloc HB.out _) _⟩
  | true =>
    rw [if_pos rfl] at h
    by_cases c1 : (a2.size : Int) ≤ 4
    · rw [if_pos c1] at h
      simp only [Option.some.injEq, Prod.mk.injEq] at h
      obtain ⟨rfl, rfl⟩ := h
      have c1b : decide ((a2.size : Int) ≤ 4) = true := decide_eq_true c1
      go_enter Try.func21, Try.ntmps21
      go_wp2_with fail
      with_reducible refine (variable_Valid.calls a0 a1 true _ A1.out).mono ?_
      rintro e w4 ⟨rfl, ⟨nd, rfl⟩⟩
      go_wp2_with fail
      go_ret2
      exact ⟨_, rfl, Kd.R_nil _ _ _ _ _, by repeat (first | exact HB.out | apply below_alloc | apply pw_below_drewN | apply below_drew1)⟩
    · rw [if_neg c1] at h
      have c1b : decide ((a2.size : Int) ≤ 4) = false := decide_eq_false c1
      by_cases c2 : (a2.size : Int) > a1
      · rw [if_pos c2] at h
        simp only [Option.some.injEq, Prod.mk.injEq] at h
        obtain ⟨rfl, rfl⟩ := h
        have c2b : decide (a1 < (a2.size : Int)) = true := decide_eq_true c2
        go_enter Try.func21, Try.ntmps21
        go_wp2_with fail
        with_reducible refine (variable_Valid.calls a0 a1 true _ A1.out).mono ?_
        rintro e w4 ⟨rfl, ⟨nd, rfl⟩⟩
        go_wp2_with fail
        go_ret2
        exact ⟨_, rfl, Kd.R_nil _ _ _ _ _, by repeat (first | exact HB.out | apply below_alloc | apply pw_below_drewN | apply below_drew1)⟩
      · rw [if_neg c2] at h
        have c2b : decide (a1 < (a2.size : Int)) = false := decide_eq_false c2
        replace h := Option.bind_eq_some_iff.mp h
        obtain ⟨⟨n, b⟩, A2_, h⟩ := h
        have A2 := Aside0.mk A2_
        clear A2_
        have z1 : 4 ≤ a2.size := by omega
        cases b with
        | false =>
          rw [if_neg (by simp)] at h
          simp only [Option.some.injEq, Prod.mk.injEq] at h
          obtain ⟨rfl, rfl⟩ := h
          go_enter Try.func21, Try.ntmps21
          go_wp2_with fail
          with_reducible refine (variable_Valid.calls a0 a1 true _ A1.out).mono ?_
          rintro e w4 ⟨rfl, ⟨nd, rfl⟩⟩
          go_wp2_with fail
          with_reducible refine (variable_ReadWord.calls (a2.extract 0 4) n false _ A2.out).mono ?_
          rintro e w4 ⟨rfl, ⟨nd2, rfl⟩⟩
          go_wp2_with fail
          go_ret2
          exact ⟨_, rfl, Kd.R_nil _ _ _ _ _, by repeat (first | exact HB.out | apply below_alloc | apply pw_below_drewN | apply below_drew1)⟩
        | true =>
          rw [if_pos rfl] at h
          by_cases c3 : n = (a2.size : Int)
          · rw [if_pos c3] at h
            have c3b : (n != (a2.size : Int)) = false := bne_eq_false_iff_eq.mpr c3
            have H' := Aside0.mk h
            clear h c3
            go_enter Try.func21, Try.ntmps21
            go_wp2_with fail
            with_reducible refine (variable_Valid.calls a0 a1 true _ A1.out).mono ?_
            rintro e w4 ⟨rfl, ⟨nd, rfl⟩⟩
            go_wp2_with fail
            with_reducible refine (variable_ReadWord.calls (a2.extract 0 4) n true _ A2.out).mono ?_
            rintro e w4 ⟨rfl, ⟨nd2, rfl⟩⟩
            go_wp2_with fail
            have hst : NextPost a0 w w.heap.size (w.heap.size + 1) [] (((w.alloc (Obj.cells #[Value.int IntKind.i64 a0] 3)).drewN (nd + nd2)).alloc (Obj.cells #[Value.slice none 0 0] 22)) :=
              ⟨.slice none 0 0, blk_alloc (blk_drewN (blk_new w _) _) _, by have := blk_new ((w.alloc (Obj.cells #[Value.int IntKind.i64 a0] 3)).drewN (nd + nd2)) (Obj.cells #[Value.slice none 0 0] 22); simpa using this, Kd.R_nil _ _ _ _ _, by repeat (first | exact HB.out | apply below_alloc | apply pw_below_drewN)⟩
            have HST := Aside0.mk hst
            clear hst
            go_loopg [12, 13] k (fun kq v12 v13 w' => ∃ (out : List ByteArray) (x12 : ByteArray), v12 = .string x12 ∧ v13 = .bool true ∧ Aside0 (variable_Unpack.l0 kq a0 out x12 = some (r1, r2)) ∧ Aside0 (kq ≤ k) ∧ Aside0 (NextPost a0 w w.heap.size (w.heap.size + 1) out w'))
            case atStart => exact ⟨[], _, rfl, rfl, H', ⟨Nat.le_refl _⟩, HST⟩
            case round =>
              clear H' HST
              obtain ⟨out, x12, rfl, rfl, HA, HK, HS⟩ := hrel
              cases gk with
              | zero => exact absurd HA.out (by simp [variable_Unpack.l0])
              | succ k1 =>
                have H := HA.out
                clear HA
                simp only [variable_Unpack.l0] at H
                obtain ⟨v, hl, ho, hR, hB⟩ := HS.out
                obtain ⟨A, c, rfl⟩ := Kd.R_slice hR
                have HL := Aside0.mk hl
                have HO := Aside0.mk ho
                have HR := Aside0.mk hR
                have HB := Aside0.mk hB
                clear hl ho hR hB HS
                by_cases e1 : x12.toList = ([] : List UInt8)
                · rw [if_pos e1] at H
                  simp only [Option.some.injEq, Prod.mk.injEq] at H
                  obtain ⟨rfl, rfl⟩ := H
                  have e1b : (x12.toList != ([] : List UInt8)) = false := bne_eq_false_iff_eq.mpr e1
                  have e1c : (x12.toList == ([] : List UInt8)) = true := beq_iff_eq.mpr e1
                  clear e1
                  have cob : wr.cell? ⟨w.heap.size + 1, 0, none⟩ = some (.slice A out.length c) := by rw [blk_cell HO.out]; rfl
                  go_wp2
                  go_ret2
                  exact ⟨_, rfl, HR.out, HB.out⟩
                · rw [if_neg e1] at H
                  have e1b : (x12.toList != ([] : List UInt8)) = true := bne_iff_ne.mpr e1
                  have e1c : (x12.toList == ([] : List UInt8)) = false := beq_eq_false_iff_ne.mpr e1
                  clear e1
                  by_cases e2 : out.length < 8796093022208
                  · rw [if_pos e2] at H
                    replace H := Option.bind_eq_some_iff.mp H
                    obtain ⟨⟨r, rest, b⟩, A3, H⟩ := H
                    have HC := Aside0.mk (next_calls a0 x12 r rest b out w wr w.heap.size (w.heap.size + 1) _ HL.out HO.out HR.out HB.out (Nat.le_refl _) (by omega) e2 A3)
                    clear A3
                    cases b with
                    | false =>
                      rw [if_neg (by simp)] at H
                      simp only [Option.some.injEq, Prod.mk.injEq] at H
                      obtain ⟨rfl, rfl⟩ := H
                      go_wp2_with fail
                      clear HL HO HR HB
                      with_reducible refine HC.out.mono ?_
                      clear HC
                      rintro e w4 ⟨rfl, HP⟩
                      replace HP := Aside0.mk HP
                      go_wp2
                      go_ret2
                      obtain ⟨_, _, _, _, hb⟩ := HP.out
                      exact ⟨_, rfl, Kd.R_nil _ _ _ _ _, hb⟩
                    | true =>
                      rw [if_pos rfl] at H
                      have H' := Aside0.mk H
                      clear H
                      go_wp2_with fail
                      refine HC.out.mono ?_
                      rintro e w4 ⟨rfl, HP⟩
                      replace HP := Aside0.mk HP
                      go_wp2
                      go_roundg k1
                      case measure => have := HK.out; omega
                      case rel => exact ⟨out ++ [r], rest, rfl, rfl, H', ⟨by have := HK.out; omega⟩, HP⟩
                  · rw [if_neg e2] at H
                    exact absurd H (by simp)
          · rw [if_neg c3] at h
            simp only [Option.some.injEq, Prod.mk.injEq] at h
            obtain ⟨rfl, rfl⟩ := h
            have c3b : (n != (a2.size : Int)) = true := bne_iff_ne.mpr c3
            go_enter Try.func21, Try.ntmps21
            go_wp2_with fail
            with_reducible refine (variable_Valid.calls a0 a1 true _ A1.out).mono ?_
            rintro e w4 ⟨rfl, ⟨nd, rfl⟩⟩
            go_wp2_with fail
            with_reducible refine (variable_ReadWord.calls (a2.extract 0 4) n true _ A2.out).mono ?_
            rintro e w4 ⟨rfl, ⟨nd2, rfl⟩⟩
            go_wp2_with fail
            go_ret2
            exact ⟨_, rfl, Kd.R_nil _ _ _ _ _, by repeat (first | exact HB.out | apply below_alloc | apply pw_below_drewN | apply below_drew1)⟩

end Go.Proofs.Ytkjookpcknhicaa.PG

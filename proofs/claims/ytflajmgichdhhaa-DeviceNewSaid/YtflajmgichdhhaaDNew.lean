/- The walk of DeviceNew. -/
import Derived.Test.YtflajmgichdhhaaSame
import Derived.BigQuiet


namespace Go.Proofs.Ytflajmgichdhhaa.PG
open Go.RowKit Go.Proofs.YtflajmgichdhhaaW.PrintWords Go.Proofs.YtflajmgichdhhaaW.PrintLast Go.Proofs.YtflajmgichdhhaaW.PrintMore

set_option linter.unusedVariables false
set_option linter.unusedSimpArgs false
/-! ### DeviceNew -/
def ZV : Value := .agg #[.slice none 0 0, .slice none 0 0, .slice none 0 0, .slice none 0 0, .bool false, .int .i64 0, .slice none 0 0]
set_option maxRecDepth 100000 in
theorem rnew_no (W : World) (n : Int) (h : n < 1 ∨ 1155 < n) :
    Calls Try.prog 18 #[.int .i64 n] W fun e W' => e = .returned (.tuple #[ZV, .int .i64 1]) ∧ Below W.heap.size W W' := by
  unfold ZV
  have ways : decide (n < 1) = true ∨ (decide (n < 1) = false ∧ decide (1155 < n) = true) := by
    by_cases h1 : n < 1
    · exact Or.inl (decide_eq_true h1)
    · exact Or.inr ⟨decide_eq_false h1, decide_eq_true (h.resolve_left h1)⟩
  clear h
  rcases ways with hd | ⟨hd, hd2⟩
  all_goals
    go_enter Try.func18, Try.ntmps18
    go_wp2_with fail
    have hb : Below W.heap.size W (W.alloc (.cells #[.slice none 0 0, .slice none 0 0, .slice none 0 0, .slice none 0 0, .bool false, .int .i64 0, .slice none 0 0] 31)) := below_alloc (Below.refl _ _) _
    have hx : (W.alloc (.cells #[.slice none 0 0, .slice none 0 0, .slice none 0 0, .slice none 0 0, .bool false, .int .i64 0, .slice none 0 0] 31)).heap[W.heap.size]? = some (.cells #[.slice none 0 0, .slice none 0 0, .slice none 0 0, .slice none 0 0, .bool false, .int .i64 0, .slice none 0 0] 31 (0, 0)) := blk_new _ _
    obtain ⟨W1, hW1⟩ : ∃ W1, W1 = W.alloc (.cells #[.slice none 0 0, .slice none 0 0, .slice none 0 0, .slice none 0 0, .bool false, .int .i64 0, .slice none 0 0] 31) := ⟨_, rfl⟩
    rw [← hW1] at hx hb ⊢
    refine bodyPost_ret (results_ct rfl _ _ W.heap.size 31 #[.slice none 0 0, .slice none 0 0, .slice none 0 0, .slice none 0 0, .bool false, .int .i64 0, .slice none 0 0] (0, 0) _ rfl hx Try.underlying31 rfl (by kernel_rfl)) rfl ?_
    exact ⟨rfl, hb⟩
set_option maxRecDepth 100000 in
set_option maxHeartbeats 1000000 in
theorem dnew_calls (W : World) (n : Int) (hn0 : -9223372036854775808 ≤ n) (hn1 : n ≤ 9223372036854775807) :
    Calls Try.prog 5 #[.int .i64 n] W fun e W' => e = .returned (.bool true) ∧ Below W.heap.size W W' := by
  go_enter Try.func5, Try.ntmps5
  go_wp2_with fail
  refine (awake_calls W).mono ?_
  rintro e W1 ⟨rfl, hb1⟩
  have HB1 := Aside0.mk hb1
  clear hb1
  by_cases h2 : 2000 < n
  · have hd : decide (2000 < n) = true := decide_eq_true h2
    clear h2
    go_wp2_with fail
    refine (awake_calls W1).mono ?_
    rintro e W2 ⟨rfl, hb2⟩
    have HB2 := Aside0.mk (HB1.out.trans (hb2.mono HB1.out.size))
    clear hb2
    go_wp2_with fail
    go_ret
    exact ⟨rfl, HB2.out⟩
  · have hd : decide (2000 < n) = false := decide_eq_false h2
    by_cases hr : 1 ≤ n ∧ n ≤ 1155
    · obtain ⟨m, rfl⟩ := Int.eq_ofNat_of_zero_le (show 0 ≤ n by omega)
      have hm1 : 1 ≤ m := by omega
      have hm2 : m ≤ 1155 := by omega
      have HM1 := Aside0.mk hm1
      have HM2 := Aside0.mk hm2
      clear hr h2 hn0 hn1 hm1 hm2
      go_wp2_with fail
      refine (new_calls W1 m HM1.out HM2.out).mono ?_
      rintro e W2 ⟨L, F, rfl, hI, hb2⟩
      have HI2 := Aside0.mk hI
      have HB2 := Aside0.mk (HB1.out.trans (hb2.mono HB1.out.size))
      clear hI hb2
      go_wp2_with fail
      refine (rnew_calls W2 m HM1.out HM2.out).mono ?_
      rintro e W3 ⟨v, rfl, hR, hb3⟩
      obtain ⟨A0, A1, A2, A3, A6, c0, c1, c2, c3, c6, fl, fu, sv, hC⟩ := hR.open_
      have HRI := Aside0.mk hR
      have HI3 := Aside0.mk (HI2.out.below hb3)
      have HB3 := Aside0.mk (HB2.out.trans (hb3.mono HB2.out.size))
      obtain rfl := hC.hv
      obtain ⟨fa, hfa⟩ : ∃ fa, fa = (newS m).failed := ⟨_, rfl⟩
      rw [← hfa] at HRI ⊢
      clear hR hC hb3 hfa HI2 HB2
      go_wp2_with fail
      refine (same_calls (k := 0) (HI3.out.below (below_alloc (Below.refl _ _) _)) (HRI.out.below (below_alloc (Below.refl _ _) _)) (fine_new m HM1.out HM2.out) (by decide)).mono ?_
      rintro e W4 ⟨rfl, hb4⟩
      have HB4 := Aside0.mk (HB3.out.trans (((below_alloc (Below.refl _ _) _).trans (hb4.mono (by simp))).mono HB3.out.size))
      clear hb4
      go_wp2_with fail
      go_ret
      exact ⟨rfl, HB4.out⟩
    · have hr' : n < 1 ∨ 1155 < n := by omega
      have HR := Aside0.mk hr'
      clear hr hr' hn0 hn1 h2
      go_wp2_with fail
      refine (new_no W1 n HR.out).mono ?_
      rintro e W2 ⟨rfl, rfl⟩
      go_wp2_with fail
      refine (rnew_no _ n HR.out).mono ?_
      rintro e W3 ⟨rfl, hb3⟩
      have HB3 := Aside0.mk (HB1.out.trans (hb3.mono HB1.out.size))
      clear hb3 HB1
      unfold ZV
      go_wp2_with fail
      go_ret
      exact ⟨rfl, HB3.out.trans ((below_alloc (Below.refl _ _) _).mono HB3.out.size)⟩
end Go.Proofs.Ytflajmgichdhhaa.PG

/- The walk of DeviceCrashes. -/
import Derived.Test.YtflajmgichdhhaaCrashS
import Derived.BigQuiet
import Derived.Test.YtflajmgichdhhaaInv

namespace Go.Proofs.Ytflajmgichdhhaa.PG
open Go.RowKit Go.Proofs.YtflajmgichdhhaaW.PrintWords Go.Proofs.YtflajmgichdhhaaW.PrintLast Go.Proofs.YtflajmgichdhhaaW.PrintMore

set_option linter.unusedVariables false
set_option linter.unusedSimpArgs false
attribute [local go_sem] max2_int min2_int max_two min_two
set_option maxHeartbeats 4000000 in
set_option maxRecDepth 100000 in
theorem crashes_calls (W : World) (A0 : Option Addr) (c0 : Nat) (l : List ByteArray) (hC : Kd.C Kd.string W A0 l.length l) (A1 : Option Addr) (c1 : Nat) (sv : List Int) (hS : Kd.C (Kd.int .i64) W A1 sv.length sv) (hc1 : sv.length ≤ c1) (hm1 : c1 ≤ maxLen) :
    Calls Try.prog 6 #[.slice A0 l.length c0, .slice A1 sv.length c1] W fun e W' => e = .returned (.bool true) ∧ Below W.heap.size W W' := by
  have HC := Aside0.mk hC
  have HS := Aside0.mk hS
  have HM := Aside0.mk hm1
  clear hC hS hm1
  by_cases hl : 6 < (l.length : Int) ∨ 6 < (sv.length : Int)
  · have ways : (decide (6 < (l.length : Int)) = true) ∨ (decide (6 < (l.length : Int)) = false ∧ decide (6 < (sv.length : Int)) = true) := by
      by_cases h1 : 6 < (l.length : Int)
      · exact Or.inl (decide_eq_true h1)
      · exact Or.inr ⟨decide_eq_false h1, decide_eq_true (hl.resolve_left h1)⟩
    clear hl
    rcases ways with hd | ⟨hd, hd2⟩
    all_goals
      go_enter Try.func6, Try.ntmps6
      go_wp2_with fail
      refine (awake_calls W).mono ?_
      rintro e W1 ⟨rfl, hb1'⟩
      have HB1 := Aside0.mk hb1'
      clear hb1'
      go_wp2_with fail
      refine (awake_calls W1).mono ?_
      rintro e W2 ⟨rfl, hb2⟩
      have HB2 := Aside0.mk (HB1.out.trans (hb2.mono HB1.out.size))
      clear hb2
      go_wp2_with fail
      go_ret
      exact ⟨rfl, HB2.out⟩
  · have hl6 : l.length ≤ 6 := by omega
    have hs6 : sv.length ≤ 6 := by omega
    have hd : decide (6 < (l.length : Int)) = false := decide_eq_false (by omega)
    have hd2 : decide (6 < (sv.length : Int)) = false := decide_eq_false (by omega)
    clear hl
    have E1 := Aside0.mk (show ∀ k, Calls Try.prog 19 #[.string ⟨#[111, 108, 100]⟩] k fun e W' => e = .returned (.string cOld) ∧ Below k.heap.size k W' from fun k => full_calls k _)
    have E2 := Aside0.mk (show ∀ k, Calls Try.prog 19 #[.string ⟨#[116, 119, 111]⟩] k fun e W' => e = .returned (.string cTwo) ∧ Below k.heap.size k W' from fun k => full_calls k _)
    go_enter Try.func6, Try.ntmps6
    go_wp2_with fail
    refine (awake_calls W).mono ?_
    rintro e W1 ⟨rfl, hb1'⟩
    have HB1 := Aside0.mk hb1'
    clear hb1'
    go_wp2_with fail
    refine (begin_calls W1 5 (by decide) (by decide) 6 (by decide)).mono ?_
    rintro e W2 ⟨L, F, v, rfl, hI, hR, hb2⟩
    obtain ⟨v0, v1, v2, v3, v6, fl, fu, svv, hA⟩ := hR
    obtain rfl := hA.hv
    obtain ⟨Aa0, cc0, e0, _⟩ := hA.h0
    obtain ⟨Aa1, cc1, e1, _⟩ := hA.h1
    obtain ⟨Aa2, cc2, e2, _⟩ := hA.h2
    obtain ⟨Aa3, cc3, e3, _⟩ := hA.h3
    obtain ⟨Aa6, cc6, e6, _⟩ := hA.h6
    subst e0 e1 e2 e3 e6
    have HI2 := Aside0.mk (Inv.start (W0 := W) (hI.lower HB1.out.size) (HB1.out.trans (hb2.mono HB1.out.size)))
    clear hI hA hb2 HB1
    go_wp2_with fail
    have hi3 := (((HI2.out.below (below_alloc (Below.refl _ _) (.cells #[.slice Aa0 (newS 6).stable.length cc0, .slice Aa1 (newS 6).old.length cc1, .slice Aa2 (newS 6).pend.length cc2, .slice Aa3 fl.length cc3, .bool (newS 6).failed, .int .i64 fu, .slice Aa6 svv.length cc6] 31))).add (.cells #[.int .i64 1, .int .i64 0] 35)).add (.cells #[.int .i64 2, .int .i64 0] 35))
    obtain ⟨W3, hW3⟩ : ∃ W3, W3 = ((W2.alloc (.cells #[.slice Aa0 (newS 6).stable.length cc0, .slice Aa1 (newS 6).old.length cc1, .slice Aa2 (newS 6).pend.length cc2, .slice Aa3 fl.length cc3, .bool (newS 6).failed, .int .i64 fu, .slice Aa6 svv.length cc6] 31)).alloc (.cells #[.int .i64 1, .int .i64 0] 35)).alloc (.cells #[.int .i64 2, .int .i64 0] 35) := ⟨_, rfl⟩
    rw [← hW3] at hi3 ⊢
    obtain ⟨b1, hb1⟩ : ∃ b1, b1 = W2.heap.size + 1 := ⟨_, rfl⟩
    obtain ⟨b2, hb2⟩ : ∃ b2, b2 = W2.heap.size + 1 + 1 := ⟨_, rfl⟩
    rw [show (W2.alloc (.cells #[.slice Aa0 (newS 6).stable.length cc0, .slice Aa1 (newS 6).old.length cc1, .slice Aa2 (newS 6).pend.length cc2, .slice Aa3 fl.length cc3, .bool (newS 6).failed, .int .i64 fu, .slice Aa6 svv.length cc6] 31)).heap.size = b1 by rw [hb1]; simp, show ((W2.alloc (.cells #[.slice Aa0 (newS 6).stable.length cc0, .slice Aa1 (newS 6).old.length cc1, .slice Aa2 (newS 6).pend.length cc2, .slice Aa3 fl.length cc3, .bool (newS 6).failed, .int .i64 fu, .slice Aa6 svv.length cc6] 31)).alloc (.cells #[.int .i64 1, .int .i64 0] 35)).heap.size = b2 by rw [hb2]; simp] at hi3
    rw [← hb2, ← hb1]
    obtain ⟨K, hK⟩ : ∃ K, K = [(b2, (.cells #[.int .i64 2, .int .i64 0] 35 : Obj)), (b1, .cells #[.int .i64 1, .int .i64 0] 35)] := ⟨_, rfl⟩
    have hk1 : (b1, (.cells #[.int .i64 1, .int .i64 0] 35 : Obj)) ∈ K := by rw [hK]; simp
    have hk2 : (b2, (.cells #[.int .i64 2, .int .i64 0] 35 : Obj)) ∈ K := by rw [hK]; simp
    have hi3 : Inv W L K (newS 6) W3 := by rw [hK]; exact hi3
    have HK1 := Aside0.mk hk1
    have HK2 := Aside0.mk hk2
    have HI3 := Aside0.mk hi3
    clear hi3 hW3 hb1 hb2 hk1 hk2 hK HI2
    refine (E1.out W3).mono ?_
    rintro e W4 ⟨rfl, hb4⟩
    have HI4 := Aside0.mk (HI3.out.below hb4)
    clear hb4 HI3
    go_wp2_with fail
    go_loopg [11, 44] 6 (fun gg _ s44 wr => ∃ j : Nat, s44 = .int .i64 j ∧ j ≤ 6 ∧ 6 - j ≤ gg ∧ Aside0 (Inv W L K (cA j) wr))
    case atStart => exact ⟨0, by go_num, by omega, by omega, HI4⟩
    case round =>
      clear HI4
      obtain ⟨j, rfl, hj, hgg, HI⟩ := hrel
      have x0 : wr.cell? ⟨b2, 0, none⟩ = some (.int .i64 2) := by rw [blk_cell (HI.out.blk HK2.out)]; rfl
      have x1 : wr.cell? ⟨b2, 1, none⟩ = some (.int .i64 0) := by rw [blk_cell (HI.out.blk HK2.out)]; rfl
      by_cases hlt : j < 6
      · have hltz : (j : Int) < 6 := by omega
        go_wp2_with fail
        refine (HI.out.write (fine_A j hj) (by omega) (by show 0 ≤ _; decide) 2 0 j cOld (cA_write j hlt)).mono ?_
        rintro e W5 ⟨rfl, hi5⟩
        have HI5 := Aside0.mk hi5
        clear hi5 HI x0 x1
        go_wp2_with fail
        go_roundg (6 - (j + 1))
        case measure => omega
        case rel => exact ⟨j + 1, by go_num, by omega, Nat.le_refl _, HI5⟩
      · obtain rfl : j = 6 := by omega
        go_wp2_with fail
        have HID := Aside0.mk (HI.out.below (W2 := wr.drew) (Below.refl _ _).drew)
        have HFC := Aside0.mk (fun (w : World) (h : Inv W L K (cA 6) w) => h.sync (fine_A 6 (by decide)) (by decide) (by show 0 ≤ _; decide) 2 0 cA_sync)
        have HFD := Aside0.mk (fun (w : World) (h : Inv W L K cB w) => h.write fine_B (by decide) (by show 0 ≤ _; decide) 2 0 5 cTwo cB_write)
        clear HI
        refine start_ (n := 11) (S := fun w' => w'.cell? ⟨b2, 0, none⟩ = some (.int .i64 2) ∧ w'.cell? ⟨b2, 1, none⟩ = some (.int .i64 0)) (ds := []) #[false, false, false, false, false, false, false, false, false, false, false] (by kernel_rfl) rfl rfl ⟨x0, x1⟩ (fun hHeld => ?_)
        refine pure_ (i := 0) (N := some 54) (v := ?_) (a' := ?_) #[true, false, false, false, false, false, false, false, false, false, false] rfl rfl (by kernel_rfl) (fun _ _ _ h => h) (Or.inl ⟨by rfl, ?_⟩) ?_ ?_
        rotate_left
        · intro w'
          go_simp
          with_reducible rfl
        rotate_left
        · simp only [Act.put, List.setIfInBounds_toArray, List.set_cons_zero, List.set_cons_succ, i64_w, i32_w]
          rfl
        refine take_ (i := 1) (N := some 55) (v := ?_) (a' := ?_) #[true, true, false, false, false, false, false, false, false, false, false] rfl rfl (by kernel_rfl) (fun _ _ _ h => h) (Or.inl ⟨by rfl, ?_⟩) hHeld ?_ ?_
        rotate_left
        · rintro w' ⟨s0, s1⟩
          go_simp
          with_reducible rfl
        rotate_left
        · simp only [Act.put, List.setIfInBounds_toArray, List.set_cons_zero, List.set_cons_succ, i64_w, i32_w]
          rfl
        refine one_ (i := 2) (N := some 56) #[true, true, true, false, false, false, false, false, false, false, false] rfl rfl (by kernel_rfl) (by decide) (fun K hK => ?_)
        refine goes_ Try.func21 (by kernel_rfl) rfl #[.pointer (some ⟨L.g, 0, none⟩), .agg #[.int .i64 2, .int .i64 0]] (by rfl) rfl rfl (by simp only [List.map_toArray, List.map_cons, List.map_nil]; rfl) ?_
        with_reducible refine (HFC.out _ HID.out).mono ?_
        rintro e w5 ⟨rfl, hi5⟩
        refine ⟨_, rfl, ?_⟩
        have HI5 := Aside0.mk hi5
        clear hi5
        refine hK.out _ _ ⟨((blk_cell (HI5.out.blk HK2.out) 0).trans rfl), ((blk_cell (HI5.out.blk HK2.out) 1).trans rfl)⟩ (fun hHeld => ?_)
        clear hK K
        refine norm_ (a' := ?_) ?_ ?_
        rotate_left
        · show Act.put _ (some 56) _ = _
          simp only [Act.put, List.setIfInBounds_toArray, List.set_cons_zero, List.set_cons_succ, i64_w, i32_w]
          rfl
        refine pure_ (i := 3) (N := some 57) (v := ?_) (a' := ?_) #[true, true, true, true, false, false, false, false, false, false, false] rfl rfl (by kernel_rfl) (fun _ _ _ h => h) (Or.inl ⟨by rfl, ?_⟩) ?_ ?_
        rotate_left
        · intro w'
          go_simp
          with_reducible rfl
        rotate_left
        · simp only [Act.put, List.setIfInBounds_toArray, List.set_cons_zero, List.set_cons_succ, i64_w, i32_w]
          rfl
        refine pure_ (i := 4) (N := some 58) (v := ?_) (a' := ?_) #[true, true, true, true, true, false, false, false, false, false, false] rfl rfl (by kernel_rfl) (fun _ _ _ h => h) (Or.inl ⟨by rfl, ?_⟩) ?_ ?_
        rotate_left
        · intro w'
          go_simp
          with_reducible rfl
        rotate_left
        · simp only [Act.put, List.setIfInBounds_toArray, List.set_cons_zero, List.set_cons_succ, i64_w, i32_w]
          rfl
        refine pure_ (i := 5) (N := some 59) (v := ?_) (a' := ?_) #[true, true, true, true, true, true, false, false, false, false, false] rfl rfl (by kernel_rfl) (fun _ _ _ h => h) (Or.inl ⟨by rfl, ?_⟩) ?_ ?_
        rotate_left
        · intro w'
          go_simp
          with_reducible rfl
        rotate_left
        · simp only [Act.put, List.setIfInBounds_toArray, List.set_cons_zero, List.set_cons_succ, i64_w, i32_w]
          rfl
        refine take_ (i := 6) (N := some 60) (v := ?_) (a' := ?_) #[true, true, true, true, true, true, true, false, false, false, false] rfl rfl (by kernel_rfl) (fun _ _ _ h => h) (Or.inl ⟨by rfl, ?_⟩) hHeld ?_ ?_
        rotate_left
        · rintro w' ⟨s0, s1⟩
          go_simp
          with_reducible rfl
        rotate_left
        · simp only [Act.put, List.setIfInBounds_toArray, List.set_cons_zero, List.set_cons_succ, i64_w, i32_w]
          rfl
        refine one_ (i := 7) (N := some 61) #[true, true, true, true, true, true, true, true, false, false, false] rfl rfl (by kernel_rfl) (by decide) (fun K hK => ?_)
        refine goes_ Try.func19 (by kernel_rfl) rfl #[.string ⟨#[116, 119, 111]⟩] (by rfl) rfl rfl (by simp only [List.map_toArray, List.map_cons, List.map_nil]; rfl) ?_
        with_reducible refine (E2.out _).mono ?_
        rintro e w6 ⟨rfl, hb6⟩
        refine ⟨_, rfl, ?_⟩
        have HI6 := Aside0.mk (HI5.out.below hb6)
        clear hb6
        refine hK.out _ _ ⟨((blk_cell (HI6.out.blk HK2.out) 0).trans rfl), ((blk_cell (HI6.out.blk HK2.out) 1).trans rfl)⟩ (fun hHeld => ?_)
        clear hK K
        refine norm_ (a' := ?_) ?_ ?_
        rotate_left
        · show Act.put _ (some 61) _ = _
          simp only [Act.put, List.setIfInBounds_toArray, List.set_cons_zero, List.set_cons_succ, i64_w, i32_w]
          rfl
        refine one_ (i := 8) (N := some 62) #[true, true, true, true, true, true, true, true, true, false, false] rfl rfl (by kernel_rfl) (by decide) (fun K hK => ?_)
        refine goes_ Try.func20 (by kernel_rfl) rfl #[.pointer (some ⟨L.g, 0, none⟩), .agg #[.int .i64 2, .int .i64 0], .int .i64 5, .string cTwo] (by rfl) rfl rfl (by simp only [List.map_toArray, List.map_cons, List.map_nil]; rfl) ?_
        with_reducible refine (HFD.out _ HI6.out).mono ?_
        rintro e w7 ⟨rfl, hi7⟩
        refine ⟨_, rfl, ?_⟩
        have HI7 := Aside0.mk hi7
        clear hi7
        refine hK.out _ _ ⟨((blk_cell (HI7.out.blk HK2.out) 0).trans rfl), ((blk_cell (HI7.out.blk HK2.out) 1).trans rfl)⟩ (fun hHeld => ?_)
        clear hK K
        refine norm_ (a' := ?_) ?_ ?_
        rotate_left
        · show Act.put _ (some 62) _ = _
          simp only [Act.put, List.setIfInBounds_toArray, List.set_cons_zero, List.set_cons_succ, i64_w, i32_w]
          rfl
        refine pure_ (i := 9) (N := some 63) (v := ?_) (a' := ?_) #[true, true, true, true, true, true, true, true, true, true, false] rfl rfl (by kernel_rfl) (fun _ _ _ h => h) (Or.inl ⟨by rfl, ?_⟩) ?_ ?_
        rotate_left
        · intro w'
          go_simp
          with_reducible rfl
        rotate_left
        · simp only [Act.put, List.setIfInBounds_toArray, List.set_cons_zero, List.set_cons_succ, i64_w, i32_w]
          rfl
        refine pure_ (i := 10) (N := some 64) (v := ?_) (a' := ?_) #[true, true, true, true, true, true, true, true, true, true, true] rfl rfl (by kernel_rfl) (fun _ _ _ h => h) (Or.inl ⟨by rfl, ?_⟩) ?_ ?_
        rotate_left
        · intro w'
          go_simp
          with_reducible rfl
        rotate_left
        · simp only [Act.put, List.setIfInBounds_toArray, List.set_cons_zero, List.set_cons_succ, i64_w, i32_w]
          rfl
        refine done_ (by kernel_rfl) ?_
        clear HID HFC HFD HI5 HI6 x0 x1
        go_wp2_with fail
        rw [cC_D l] at HI7
        go_loopg [12, 13, 67] l.length (fun gg _ _ s67 wr => ∃ j : Nat, s67 = .int .i64 j ∧ j ≤ l.length ∧ l.length - j ≤ gg ∧ Aside0 (Inv W L K (cD l j) wr))
        case atStart => exact ⟨0, by go_num, Nat.zero_le _, by omega, HI7⟩
        case round =>
          clear HI7
          obtain ⟨j, rfl, hj, hgg, HI⟩ := hrel
          by_cases hlt : j < l.length
          · have hltz : (j : Int) < (l.length : Int) := by omega
            obtain ⟨ad, e, h0⟩ := Kd.at_string (Kd.C_below HC.out HI.out.bel) (j : Int) (by omega) hltz
            rw [Int.toNat_natCast] at h0
            have hrd : rdOf ByteArray.empty l (j : Int) = l.getD j ⟨#[]⟩ := by unfold rdOf; rw [Int.toNat_natCast]; rfl
            rw [hrd] at h0
            have hwr := cD_write l j
            obtain ⟨s, hs⟩ : ∃ s, s = l.getD j ⟨#[]⟩ := ⟨_, rfl⟩
            rw [← hs] at h0 hwr
            subst e
            clear hs hrd
            by_cases h5 : j < 5
            · have h5z : (j : Int) < 5 := by omega
              have hd5 : decide ((j : Int) < 5) = true := decide_eq_true h5z
              have x0 : wr.cell? ⟨b1, 0, none⟩ = some (.int .i64 1) := by rw [blk_cell (HI.out.blk HK1.out)]; rfl
              have x1 : wr.cell? ⟨b1, 1, none⟩ = some (.int .i64 0) := by rw [blk_cell (HI.out.blk HK1.out)]; rfl
              have HFD := Aside0.mk (fun (w : World) (h : Inv W L K (cD l j) w) => h.write (fine_D l j) (by decide) (by show 0 ≤ _; decide) 1 0 j (fullS s) (hwr h5))
              have HID := Aside0.mk (HI.out.below (W2 := wr.drew) (Below.refl _ _).drew)
              clear hwr HI
              go_wp2_with fail
              refine start_ (n := 11) (S := fun w' => w'.cell? ⟨b1, 0, none⟩ = some (.int .i64 1) ∧ w'.cell? ⟨b1, 1, none⟩ = some (.int .i64 0)) (ds := []) #[false, false, false, false, false, false, false, false, false, false, false] (by kernel_rfl) rfl rfl ⟨x0, x1⟩ (fun hHeld => ?_)
              refine pure_ (i := 0) (N := some 72) (v := ?_) (a' := ?_) #[true, false, false, false, false, false, false, false, false, false, false] rfl rfl (by kernel_rfl) (fun _ _ _ h => h) (Or.inl ⟨by rfl, ?_⟩) ?_ ?_
              rotate_left
              · intro w'
                go_simp
                with_reducible rfl
              rotate_left
              · simp only [Act.put, List.setIfInBounds_toArray, List.set_cons_zero, List.set_cons_succ, i64_w, i32_w]
                rfl
              refine pure_ (i := 1) (N := some 73) (v := ?_) (a' := ?_) #[true, true, false, false, false, false, false, false, false, false, false] rfl rfl (by kernel_rfl) (fun _ _ _ h => h) (Or.inl ⟨by rfl, ?_⟩) ?_ ?_
              rotate_left
              · intro w'
                go_simp
                with_reducible rfl
              rotate_left
              · simp only [Act.put, List.setIfInBounds_toArray, List.set_cons_zero, List.set_cons_succ, i64_w, i32_w]
                rfl
              refine pure_ (i := 2) (N := some 74) (v := ?_) (a' := ?_) #[true, true, true, false, false, false, false, false, false, false, false] rfl rfl (by kernel_rfl) (fun _ _ _ h => h) (Or.inl ⟨by rfl, ?_⟩) ?_ ?_
              rotate_left
              · intro w'
                go_simp
                with_reducible rfl
              rotate_left
              · simp only [Act.put, List.setIfInBounds_toArray, List.set_cons_zero, List.set_cons_succ, i64_w, i32_w]
                rfl
              refine pure_ (i := 3) (N := some 75) (v := ?_) (a' := ?_) #[true, true, true, true, false, false, false, false, false, false, false] rfl rfl (by kernel_rfl) (fun _ _ _ h => h) (Or.inl ⟨by rfl, ?_⟩) ?_ ?_
              rotate_left
              · intro w'
                go_simp
                with_reducible rfl
              rotate_left
              · simp only [Act.put, List.setIfInBounds_toArray, List.set_cons_zero, List.set_cons_succ, i64_w, i32_w]
                rfl
              refine pure_ (i := 5) (N := some 77) (v := ?_) (a' := ?_) #[true, true, true, true, false, true, false, false, false, false, false] rfl rfl (by kernel_rfl) (fun _ _ _ h => h) (Or.inl ⟨by rfl, ?_⟩) ?_ ?_
              rotate_left
              · intro w'
                go_simp
                with_reducible rfl
              rotate_left
              · simp only [Act.put, List.setIfInBounds_toArray, List.set_cons_zero, List.set_cons_succ, i64_w, i32_w]
                rfl
              refine pure_ (i := 6) (N := some 78) (v := ?_) (a' := ?_) #[true, true, true, true, false, true, true, false, false, false, false] rfl rfl (by kernel_rfl) (fun _ _ _ h => h) (Or.inl ⟨by rfl, ?_⟩) ?_ ?_
              rotate_left
              · intro w'
                go_simp
                with_reducible rfl
              rotate_left
              · simp only [Act.put, List.setIfInBounds_toArray, List.set_cons_zero, List.set_cons_succ, i64_w, i32_w]
                rfl
              refine take_ (i := 4) (N := some 76) (v := ?_) (a' := ?_) #[true, true, true, true, true, true, true, false, false, false, false] rfl rfl (by kernel_rfl) (fun _ _ _ h => h) (Or.inl ⟨by rfl, ?_⟩) hHeld ?_ ?_
              rotate_left
              · rintro w' ⟨s0, s1⟩
                go_simp
                with_reducible rfl
              rotate_left
              · simp only [Act.put, List.setIfInBounds_toArray, List.set_cons_zero, List.set_cons_succ, i64_w, i32_w]
                rfl
              refine one_ (i := 7) (N := some 79) #[true, true, true, true, true, true, true, true, false, false, false] rfl rfl (by kernel_rfl) (by decide) (fun K hK => ?_)
              refine goes_ Try.func19 (by kernel_rfl) rfl #[.string s] (by rfl) rfl rfl (by simp only [List.map_toArray, List.map_cons, List.map_nil]; rfl) ?_
              with_reducible refine (full_calls _ s).mono ?_
              rintro e w6 ⟨rfl, hb6⟩
              refine ⟨_, rfl, ?_⟩
              have HI6 := Aside0.mk (HID.out.below hb6)
              clear hb6
              refine hK.out _ _ ⟨((blk_cell (HI6.out.blk HK1.out) 0).trans rfl), ((blk_cell (HI6.out.blk HK1.out) 1).trans rfl)⟩ (fun hHeld => ?_)
              clear hK K
              refine norm_ (a' := ?_) ?_ ?_
              rotate_left
              · show Act.put _ (some 79) _ = _
                simp only [Act.put, List.setIfInBounds_toArray, List.set_cons_zero, List.set_cons_succ, i64_w, i32_w]
                rfl
              refine one_ (i := 8) (N := some 80) #[true, true, true, true, true, true, true, true, true, false, false] rfl rfl (by kernel_rfl) (by decide) (fun K hK => ?_)
              refine goes_ Try.func20 (by kernel_rfl) rfl #[.pointer (some ⟨L.g, 0, none⟩), .agg #[.int .i64 1, .int .i64 0], .int .i64 j, .string (fullS s)] (by rfl) rfl rfl (by simp only [List.map_toArray, List.map_cons, List.map_nil]; rfl) ?_
              with_reducible refine (HFD.out _ HI6.out).mono ?_
              rintro e w7 ⟨rfl, hi7⟩
              refine ⟨_, rfl, ?_⟩
              have HI7 := Aside0.mk hi7
              clear hi7
              refine hK.out _ _ ⟨((blk_cell (HI7.out.blk HK1.out) 0).trans rfl), ((blk_cell (HI7.out.blk HK1.out) 1).trans rfl)⟩ (fun hHeld => ?_)
              clear hK K
              refine norm_ (a' := ?_) ?_ ?_
              rotate_left
              · show Act.put _ (some 80) _ = _
                simp only [Act.put, List.setIfInBounds_toArray, List.set_cons_zero, List.set_cons_succ, i64_w, i32_w]
                rfl
              refine pure_ (i := 9) (N := some 81) (v := ?_) (a' := ?_) #[true, true, true, true, true, true, true, true, true, true, false] rfl rfl (by kernel_rfl) (fun _ _ _ h => h) (Or.inl ⟨by rfl, ?_⟩) ?_ ?_
              rotate_left
              · intro w'
                go_simp
                with_reducible rfl
              rotate_left
              · simp only [Act.put, List.setIfInBounds_toArray, List.set_cons_zero, List.set_cons_succ, i64_w, i32_w]
                rfl
              refine pure_ (i := 10) (N := some 82) (v := ?_) (a' := ?_) #[true, true, true, true, true, true, true, true, true, true, true] rfl rfl (by kernel_rfl) (fun _ _ _ h => h) (Or.inl ⟨by rfl, ?_⟩) ?_ ?_
              rotate_left
              · intro w'
                go_simp
                with_reducible rfl
              rotate_left
              · simp only [Act.put, List.setIfInBounds_toArray, List.set_cons_zero, List.set_cons_succ, i64_w, i32_w]
                rfl
              refine done_ (by kernel_rfl) ?_
              clear HID HFD HI6 x0 x1
              go_wp2_with fail
              go_roundg (l.length - (j + 1))
              case measure => omega
              case rel => exact ⟨j + 1, by go_num, by omega, Nat.le_refl _, HI7⟩
            · have hd5 : decide ((j : Int) < 5) = false := decide_eq_false (by omega)
              have HI8 := Aside0.mk (show Inv W L K (cD l (j + 1)) wr by rw [cD_skip l j (by omega)]; exact HI.out)
              clear hwr HI
              go_wp2_with fail
              refine start_ (n := 11) (S := fun w' => True) (ds := []) #[false, false, false, false, false, false, false, false, false, false, false] (by kernel_rfl) rfl rfl trivial (fun hHeld => ?_)
              refine pure_ (i := 0) (N := some 72) (v := ?_) (a' := ?_) #[true, false, false, false, false, false, false, false, false, false, false] rfl rfl (by kernel_rfl) (fun _ _ _ h => h) (Or.inl ⟨by rfl, ?_⟩) ?_ ?_
              rotate_left
              · intro w'
                go_simp
                with_reducible rfl
              rotate_left
              · simp only [Act.put, List.setIfInBounds_toArray, List.set_cons_zero, List.set_cons_succ, i64_w, i32_w]
                rfl
              refine pure_ (i := 1) (N := some 73) (v := ?_) (a' := ?_) #[true, true, false, false, false, false, false, false, false, false, false] rfl rfl (by kernel_rfl) (fun _ _ _ h => h) (Or.inl ⟨by rfl, ?_⟩) ?_ ?_
              rotate_left
              · intro w'
                go_simp
                with_reducible rfl
              rotate_left
              · simp only [Act.put, List.setIfInBounds_toArray, List.set_cons_zero, List.set_cons_succ, i64_w, i32_w]
                rfl
              refine pure_ (i := 2) (N := some 74) (v := ?_) (a' := ?_) #[true, true, true, false, false, false, false, false, false, false, false] rfl rfl (by kernel_rfl) (fun _ _ _ h => h) (Or.inl ⟨by rfl, ?_⟩) ?_ ?_
              rotate_left
              · intro w'
                go_simp
                with_reducible rfl
              rotate_left
              · simp only [Act.put, List.setIfInBounds_toArray, List.set_cons_zero, List.set_cons_succ, i64_w, i32_w]
                rfl
              refine pure_ (i := 3) (N := some 75) (v := undef) (a' := ?_) #[true, true, true, true, false, false, false, false, false, false, false] rfl rfl (by kernel_rfl) (fun _ _ _ h => h) (Or.inr ⟨by rfl, rfl⟩) ?_ ?_
              rotate_left
              · simp only [Act.put, List.setIfInBounds_toArray, List.set_cons_zero, List.set_cons_succ, i64_w, i32_w]
                rfl
              refine pure_ (i := 4) (N := some 76) (v := undef) (a' := ?_) #[true, true, true, true, true, false, false, false, false, false, false] rfl rfl (by kernel_rfl) (fun _ _ _ h => h) (Or.inr ⟨by rfl, rfl⟩) ?_ ?_
              rotate_left
              · simp only [Act.put, List.setIfInBounds_toArray, List.set_cons_zero, List.set_cons_succ, i64_w, i32_w]
                rfl
              refine pure_ (i := 5) (N := some 77) (v := undef) (a' := ?_) #[true, true, true, true, true, true, false, false, false, false, false] rfl rfl (by kernel_rfl) (fun _ _ _ h => h) (Or.inr ⟨by rfl, rfl⟩) ?_ ?_
              rotate_left
              · simp only [Act.put, List.setIfInBounds_toArray, List.set_cons_zero, List.set_cons_succ, i64_w, i32_w]
                rfl
              refine pure_ (i := 6) (N := some 78) (v := undef) (a' := ?_) #[true, true, true, true, true, true, true, false, false, false, false] rfl rfl (by kernel_rfl) (fun _ _ _ h => h) (Or.inr ⟨by rfl, rfl⟩) ?_ ?_
              rotate_left
              · simp only [Act.put, List.setIfInBounds_toArray, List.set_cons_zero, List.set_cons_succ, i64_w, i32_w]
                rfl
              refine pure_ (i := 7) (N := some 79) (v := undef) (a' := ?_) #[true, true, true, true, true, true, true, true, false, false, false] rfl rfl (by kernel_rfl) (fun _ _ _ h => h) (Or.inr ⟨by rfl, rfl⟩) ?_ ?_
              rotate_left
              · simp only [Act.put, List.setIfInBounds_toArray, List.set_cons_zero, List.set_cons_succ, i64_w, i32_w]
                rfl
              refine pure_ (i := 8) (N := some 80) (v := undef) (a' := ?_) #[true, true, true, true, true, true, true, true, true, false, false] rfl rfl (by kernel_rfl) (fun _ _ _ h => h) (Or.inr ⟨by rfl, rfl⟩) ?_ ?_
              rotate_left
              · simp only [Act.put, List.setIfInBounds_toArray, List.set_cons_zero, List.set_cons_succ, i64_w, i32_w]
                rfl
              refine pure_ (i := 9) (N := some 81) (v := undef) (a' := ?_) #[true, true, true, true, true, true, true, true, true, true, false] rfl rfl (by kernel_rfl) (fun _ _ _ h => h) (Or.inr ⟨by rfl, rfl⟩) ?_ ?_
              rotate_left
              · simp only [Act.put, List.setIfInBounds_toArray, List.set_cons_zero, List.set_cons_succ, i64_w, i32_w]
                rfl
              refine pure_ (i := 10) (N := some 82) (v := ?_) (a' := ?_) #[true, true, true, true, true, true, true, true, true, true, true] rfl rfl (by kernel_rfl) (fun _ _ _ h => h) (Or.inl ⟨by rfl, ?_⟩) ?_ ?_
              rotate_left
              · intro w'
                go_simp
                with_reducible rfl
              rotate_left
              · simp only [Act.put, List.setIfInBounds_toArray, List.set_cons_zero, List.set_cons_succ, i64_w, i32_w]
                rfl
              refine done_ (by kernel_rfl) ?_
              go_wp2_with fail
              go_roundg (l.length - (j + 1))
              case measure => omega
              case rel => exact ⟨j + 1, by go_num, by omega, Nat.le_refl _, ⟨HI8.out.below (Below.refl _ _).drew⟩⟩
          · obtain rfl : j = l.length := by omega
            have hsv : sv.length ≤ c1 := hc1
            have hcr := HI.out.crash (fine_D l l.length) (by decide) 1 A1 c1 sv HS.out hc1 (by omega)
            have HCR := Aside0.mk (show Calls Try.prog 22 #[.pointer (some ⟨L.g, 0, none⟩), .int .i64 1, .slice A1 sv.length c1] wr fun e W' => e = .returned (.tuple #[]) ∧ Inv W L K (cE l sv) W' from hcr)
            clear hcr HI
            go_wp2_with fail
            refine HCR.out.mono ?_
            rintro e W8 ⟨rfl, hi8⟩
            have HI8 := Aside0.mk hi8
            clear hi8 HCR
            go_wp2_with fail
            go_loopg [14, 15, 16, 17, 18, 87] 5 (fun gg _ _ _ _ _ s87 wr => ∃ i : Nat, s87 = .int .i64 i ∧ i ≤ 5 ∧ 5 - i ≤ gg ∧ Aside0 (Inv W L K (cE l sv) wr))
            case atStart => exact ⟨0, by go_num, by omega, by omega, HI8⟩
            case round =>
              clear HI8
              obtain ⟨i, rfl, hi, hgg, HI⟩ := hrel
              have hoo : (cOld.toList == cOld.toList) = true := bytes_yes rfl
              by_cases hlt : i < 5
              · have hltz : (i : Int) < 5 := by omega
                by_cases hs : i < sv.length
                · have hsz : (i : Int) < (sv.length : Int) := by omega
                  have hds : decide ((i : Int) < (sv.length : Int)) = true := decide_eq_true hsz
                  by_cases hll : i < l.length
                  · have hlz : (i : Int) < (l.length : Int) := by omega
                    have hdl : decide ((i : Int) < (l.length : Int)) = true := decide_eq_true hlz
                    obtain ⟨ad, e, h0⟩ := Kd.at_string (Kd.C_below HC.out HI.out.bel) (i : Int) (by omega) hlz
                    rw [Int.toNat_natCast] at h0
                    have hrd : rdOf ByteArray.empty l (i : Int) = l.getD i ⟨#[]⟩ := by unfold rdOf; rw [Int.toNat_natCast]; rfl
                    rw [hrd] at h0
                    obtain ⟨ad2, e2, q0⟩ := Kd.at_int (Kd.C_below HS.out HI.out.bel) (i : Int) (by omega) hsz
                    rw [rd_at sv i hs, Int.toNat_natCast] at q0
                    have hbv : bytesAt sv i = (min (max 0 sv[i]) 140).toNat := by unfold bytesAt; rw [List.getElem?_eq_getElem hs]
                    have hwv : wantS l sv i = cut (fullS (l.getD i ⟨#[]⟩)) cOld (bytesAt sv i) := by unfold wantS; rw [if_pos (by omega)]
                    obtain ⟨x, hx⟩ : ∃ x, x = sv[i] := ⟨_, rfl⟩
                    obtain ⟨s, hss⟩ : ∃ s, s = l.getD i ⟨#[]⟩ := ⟨_, rfl⟩
                    rw [← hss] at h0 hwv
                    rw [← hx] at q0 hbv
                    subst e
                    subst e2
                    clear hss hx hrd hs
                    by_cases hx0 : 0 < x
                    · by_cases hx1 : 140 < x
                      · have hw1 : wantS l sv i = cut (fullS s) cOld 140 := by rw [hwv, hbv]; congr 1; omega
                        clear hwv hbv
                        have hrd5 := fun (w : World) (h : Inv W L K (cE l sv) w) => h.read (by rw [(cE_facts l sv).1]; decide) (i : Int) (cE_read l sv i hlt)
                        rw [hw1] at hrd5
                        have HRD := Aside0.mk hrd5
                        have hyy : ((cut (fullS s) cOld 140).toList == (cut (fullS s) cOld 140).toList) = true := bytes_yes rfl
                        unfold cut at hyy HRD
                        obtain ⟨f, hf⟩ : ∃ f, f = fullS s := ⟨_, rfl⟩
                        have hfs : f.size = 140 := by rw [hf]; exact fullS_size s
                        have HFU := Aside0.mk (fun w => full_calls w s)
                        rw [← hf] at hyy HRD HFU
                        have s9 : ¬ 9223372036854775807 < cOld.size := by have := cOld_size; omega
                        have s6 : ¬ 9223372036854775807 < min 140 f.size + (cOld.size - 140) := by have := cOld_size; omega
                        have s7 : 140 ≤ f.size := by omega
                        have s8 : 140 ≤ cOld.size := by have := cOld_size; omega
                        have s7z : (140 : Int) ≤ (f.size : Int) := by omega
                        have s8z : (140 : Int) ≤ (cOld.size : Int) := by omega
                        clear hrd5 hw1 hf hfs
                        go_wp2_with fail
                        refine start_ (n := 12) (S := fun w' => w'.cell? (ad.add i) = some (.string s)) (ds := []) #[false, false, false, false, false, false, false, false, false, false, false, false] (by kernel_rfl) rfl rfl (h0) (fun hHeld => ?_)
                        refine pure_ (i := 0) (N := some 109) (v := ?_) (a' := ?_) #[true, false, false, false, false, false, false, false, false, false, false, false] rfl rfl (by kernel_rfl) (fun _ _ _ h => h) (Or.inl ⟨by rfl, ?_⟩) ?_ ?_
                        rotate_left
                        · intro w'
                          go_simp
                          with_reducible rfl
                        rotate_left
                        · simp only [Act.put, List.setIfInBounds_toArray, List.set_cons_zero, List.set_cons_succ, i64_w, i32_w]
                          rfl
                        refine pure_ (i := 1) (N := some 110) (v := ?_) (a' := ?_) #[true, true, false, false, false, false, false, false, false, false, false, false] rfl rfl (by kernel_rfl) (fun _ _ _ h => h) (Or.inl ⟨by rfl, ?_⟩) ?_ ?_
                        rotate_left
                        · intro w'
                          go_simp
                          with_reducible rfl
                        rotate_left
                        · simp only [Act.put, List.setIfInBounds_toArray, List.set_cons_zero, List.set_cons_succ, i64_w, i32_w]
                          rfl
                        refine pure_ (i := 2) (N := some 111) (v := ?_) (a' := ?_) #[true, true, true, false, false, false, false, false, false, false, false, false] rfl rfl (by kernel_rfl) (fun _ _ _ h => h) (Or.inl ⟨by rfl, ?_⟩) ?_ ?_
                        rotate_left
                        · intro w'
                          go_simp
                          with_reducible rfl
                        rotate_left
                        · simp only [Act.put, List.setIfInBounds_toArray, List.set_cons_zero, List.set_cons_succ, i64_w, i32_w]
                          rfl
                        refine pure_ (i := 5) (N := some 114) (v := ?_) (a' := ?_) #[true, true, true, false, false, true, false, false, false, false, false, false] rfl rfl (by kernel_rfl) (fun _ _ _ h => h) (Or.inl ⟨by rfl, ?_⟩) ?_ ?_
                        rotate_left
                        · intro w'
                          go_simp
                          with_reducible rfl
                        rotate_left
                        · simp only [Act.put, List.setIfInBounds_toArray, List.set_cons_zero, List.set_cons_succ, i64_w, i32_w]
                          rfl
                        refine pure_ (i := 7) (N := some 116) (v := ?_) (a' := ?_) #[true, true, true, false, false, true, false, true, false, false, false, false] rfl rfl (by kernel_rfl) (fun _ _ _ h => h) (Or.inl ⟨by rfl, ?_⟩) ?_ ?_
                        rotate_left
                        · intro w'
                          go_simp
                          with_reducible rfl
                        rotate_left
                        · simp only [Act.put, List.setIfInBounds_toArray, List.set_cons_zero, List.set_cons_succ, i64_w, i32_w]
                          rfl
                        refine pure_ (i := 8) (N := some 117) (v := ?_) (a' := ?_) #[true, true, true, false, false, true, false, true, true, false, false, false] rfl rfl (by kernel_rfl) (fun _ _ _ h => h) (Or.inl ⟨by rfl, ?_⟩) ?_ ?_
                        rotate_left
                        · intro w'
                          go_simp
                          with_reducible rfl
                        rotate_left
                        · simp only [Act.put, List.setIfInBounds_toArray, List.set_cons_zero, List.set_cons_succ, i64_w, i32_w]
                          rfl
                        refine pure_ (i := 9) (N := some 118) (v := ?_) (a' := ?_) #[true, true, true, false, false, true, false, true, true, true, false, false] rfl rfl (by kernel_rfl) (fun _ _ _ h => h) (Or.inl ⟨by rfl, ?_⟩) ?_ ?_
                        rotate_left
                        · intro w'
                          go_simp
                          with_reducible rfl
                        rotate_left
                        · simp only [Act.put, List.setIfInBounds_toArray, List.set_cons_zero, List.set_cons_succ, i64_w, i32_w]
                          rfl
                        refine take_ (i := 3) (N := some 112) (v := ?_) (a' := ?_) #[true, true, true, true, false, true, false, true, true, true, false, false] rfl rfl (by kernel_rfl) (fun _ _ _ h => h) (Or.inl ⟨by rfl, ?_⟩) hHeld ?_ ?_
                        rotate_left
                        · intro w' s0
                          go_simp
                          with_reducible rfl
                        rotate_left
                        · simp only [Act.put, List.setIfInBounds_toArray, List.set_cons_zero, List.set_cons_succ, i64_w, i32_w]
                          rfl
                        refine one_ (i := 4) (N := some 113) #[true, true, true, true, true, true, false, true, true, true, false, false] rfl rfl (by kernel_rfl) (by decide) (fun K hK => ?_)
                        refine goes_ Try.func19 (by kernel_rfl) rfl #[.string s] (by rfl) rfl rfl (by simp only [List.map_toArray, List.map_cons, List.map_nil]; rfl) ?_
                        with_reducible refine (HFU.out _).mono ?_
                        rintro e w6 ⟨rfl, hb6⟩
                        refine ⟨_, rfl, ?_⟩
                        have HI6 := Aside0.mk ((HI.out.below (W2 := wr.drew) (Below.refl _ _).drew).below hb6)
                        have HL6 := Aside0.mk (show w6.cell? (ad.add i) = some (.string s) from (hb6.cell (World.block_lt_of_cell? wr.drew _ h0)).trans h0)
                        clear hb6
                        refine hK.out _ _ (HL6.out) (fun hHeld => ?_)
                        clear hK K
                        refine norm_ (a' := ?_) ?_ ?_
                        rotate_left
                        · show Act.put _ (some 113) _ = _
                          simp only [Act.put, List.setIfInBounds_toArray, List.set_cons_zero, List.set_cons_succ, i64_w, i32_w]
                          rfl
                        refine pure_ (i := 6) (N := some 115) (v := ?_) (a' := ?_) #[true, true, true, true, true, true, true, true, true, true, false, false] rfl rfl (by kernel_rfl) (fun _ _ _ h => h) (Or.inl ⟨by rfl, ?_⟩) ?_ ?_
                        rotate_left
                        · intro w'
                          go_simp
                          with_reducible rfl
                        rotate_left
                        · simp only [Act.put, List.setIfInBounds_toArray, List.set_cons_zero, List.set_cons_succ, i64_w, i32_w]
                          rfl
                        refine pure_ (i := 10) (N := some 119) (v := ?_) (a' := ?_) #[true, true, true, true, true, true, true, true, true, true, true, false] rfl rfl (by kernel_rfl) (fun _ _ _ h => h) (Or.inl ⟨by rfl, ?_⟩) ?_ ?_
                        rotate_left
                        · intro w'
                          go_simp
                          with_reducible rfl
                        rotate_left
                        · simp only [Act.put, List.setIfInBounds_toArray, List.set_cons_zero, List.set_cons_succ, i64_w, i32_w]
                          rfl
                        refine pure_ (i := 11) (N := some 16) (v := ?_) (a' := ?_) #[true, true, true, true, true, true, true, true, true, true, true, true] rfl rfl (by kernel_rfl) (fun _ _ _ h => h) (Or.inl ⟨by rfl, ?_⟩) ?_ ?_
                        rotate_left
                        · intro w'
                          go_simp
                          with_reducible rfl
                        rotate_left
                        · simp only [Act.put, List.setIfInBounds_toArray, List.set_cons_zero, List.set_cons_succ, i64_w, i32_w]
                          rfl
                        refine done_ (by kernel_rfl) ?_
                        clear h0 HI
                        go_wp2_with fail
                        refine (HRD.out _ HI6.out).mono ?_
                        rintro e W9 ⟨rfl, rfl⟩
                        go_wp2_with fail
                        go_roundg (5 - (i + 1))
                        case measure => omega
                        case rel => exact ⟨i + 1, by go_num, by omega, Nat.le_refl _, HI6⟩
                      · obtain ⟨b, rfl⟩ := Int.eq_ofNat_of_zero_le (show 0 ≤ x by omega)
                        have hw1 : wantS l sv i = cut (fullS s) cOld b := by rw [hwv, hbv]; congr 1; omega
                        clear hwv hbv
                        have hrd5 := fun (w : World) (h : Inv W L K (cE l sv) w) => h.read (by rw [(cE_facts l sv).1]; decide) (i : Int) (cE_read l sv i hlt)
                        rw [hw1] at hrd5
                        have HRD := Aside0.mk hrd5
                        have hyy : ((cut (fullS s) cOld b).toList == (cut (fullS s) cOld b).toList) = true := bytes_yes rfl
                        unfold cut at hyy HRD
                        obtain ⟨f, hf⟩ : ∃ f, f = fullS s := ⟨_, rfl⟩
                        have hfs : f.size = 140 := by rw [hf]; exact fullS_size s
                        have HFU := Aside0.mk (fun w => full_calls w s)
                        rw [← hf] at hyy HRD HFU
                        have s9 : ¬ 9223372036854775807 < cOld.size := by have := cOld_size; omega
                        have s6 : ¬ 9223372036854775807 < min b f.size + (cOld.size - b) := by have := cOld_size; omega
                        have s7 : b ≤ f.size := by omega
                        have s8 : b ≤ cOld.size := by have := cOld_size; omega
                        have s7z : (b : Int) ≤ (f.size : Int) := by omega
                        have s8z : (b : Int) ≤ (cOld.size : Int) := by omega
                        clear hrd5 hw1 hf hfs
                        go_wp2_with fail
                        refine start_ (n := 12) (S := fun w' => w'.cell? (ad.add i) = some (.string s)) (ds := []) #[false, false, false, false, false, false, false, false, false, false, false, false] (by kernel_rfl) rfl rfl (h0) (fun hHeld => ?_)
                        refine pure_ (i := 0) (N := some 109) (v := ?_) (a' := ?_) #[true, false, false, false, false, false, false, false, false, false, false, false] rfl rfl (by kernel_rfl) (fun _ _ _ h => h) (Or.inl ⟨by rfl, ?_⟩) ?_ ?_
                        rotate_left
                        · intro w'
                          go_simp
                          with_reducible rfl
                        rotate_left
                        · simp only [Act.put, List.setIfInBounds_toArray, List.set_cons_zero, List.set_cons_succ, i64_w, i32_w]
                          rfl
                        refine pure_ (i := 1) (N := some 110) (v := ?_) (a' := ?_) #[true, true, false, false, false, false, false, false, false, false, false, false] rfl rfl (by kernel_rfl) (fun _ _ _ h => h) (Or.inl ⟨by rfl, ?_⟩) ?_ ?_
                        rotate_left
                        · intro w'
                          go_simp
                          with_reducible rfl
                        rotate_left
                        · simp only [Act.put, List.setIfInBounds_toArray, List.set_cons_zero, List.set_cons_succ, i64_w, i32_w]
                          rfl
                        refine pure_ (i := 2) (N := some 111) (v := ?_) (a' := ?_) #[true, true, true, false, false, false, false, false, false, false, false, false] rfl rfl (by kernel_rfl) (fun _ _ _ h => h) (Or.inl ⟨by rfl, ?_⟩) ?_ ?_
                        rotate_left
                        · intro w'
                          go_simp
                          with_reducible rfl
                        rotate_left
                        · simp only [Act.put, List.setIfInBounds_toArray, List.set_cons_zero, List.set_cons_succ, i64_w, i32_w]
                          rfl
                        refine pure_ (i := 5) (N := some 114) (v := ?_) (a' := ?_) #[true, true, true, false, false, true, false, false, false, false, false, false] rfl rfl (by kernel_rfl) (fun _ _ _ h => h) (Or.inl ⟨by rfl, ?_⟩) ?_ ?_
                        rotate_left
                        · intro w'
                          go_simp
                          with_reducible rfl
                        rotate_left
                        · simp only [Act.put, List.setIfInBounds_toArray, List.set_cons_zero, List.set_cons_succ, i64_w, i32_w]
                          rfl
                        refine pure_ (i := 7) (N := some 116) (v := ?_) (a' := ?_) #[true, true, true, false, false, true, false, true, false, false, false, false] rfl rfl (by kernel_rfl) (fun _ _ _ h => h) (Or.inl ⟨by rfl, ?_⟩) ?_ ?_
                        rotate_left
                        · intro w'
                          go_simp
                          with_reducible rfl
                        rotate_left
                        · simp only [Act.put, List.setIfInBounds_toArray, List.set_cons_zero, List.set_cons_succ, i64_w, i32_w]
                          rfl
                        refine pure_ (i := 8) (N := some 117) (v := ?_) (a' := ?_) #[true, true, true, false, false, true, false, true, true, false, false, false] rfl rfl (by kernel_rfl) (fun _ _ _ h => h) (Or.inl ⟨by rfl, ?_⟩) ?_ ?_
                        rotate_left
                        · intro w'
                          go_simp
                          with_reducible rfl
                        rotate_left
                        · simp only [Act.put, List.setIfInBounds_toArray, List.set_cons_zero, List.set_cons_succ, i64_w, i32_w]
                          rfl
                        refine pure_ (i := 9) (N := some 118) (v := ?_) (a' := ?_) #[true, true, true, false, false, true, false, true, true, true, false, false] rfl rfl (by kernel_rfl) (fun _ _ _ h => h) (Or.inl ⟨by rfl, ?_⟩) ?_ ?_
                        rotate_left
                        · intro w'
                          go_simp
                          with_reducible rfl
                        rotate_left
                        · simp only [Act.put, List.setIfInBounds_toArray, List.set_cons_zero, List.set_cons_succ, i64_w, i32_w]
                          rfl
                        refine take_ (i := 3) (N := some 112) (v := ?_) (a' := ?_) #[true, true, true, true, false, true, false, true, true, true, false, false] rfl rfl (by kernel_rfl) (fun _ _ _ h => h) (Or.inl ⟨by rfl, ?_⟩) hHeld ?_ ?_
                        rotate_left
                        · intro w' s0
                          go_simp
                          with_reducible rfl
                        rotate_left
                        · simp only [Act.put, List.setIfInBounds_toArray, List.set_cons_zero, List.set_cons_succ, i64_w, i32_w]
                          rfl
                        refine one_ (i := 4) (N := some 113) #[true, true, true, true, true, true, false, true, true, true, false, false] rfl rfl (by kernel_rfl) (by decide) (fun K hK => ?_)
                        refine goes_ Try.func19 (by kernel_rfl) rfl #[.string s] (by rfl) rfl rfl (by simp only [List.map_toArray, List.map_cons, List.map_nil]; rfl) ?_
                        with_reducible refine (HFU.out _).mono ?_
                        rintro e w6 ⟨rfl, hb6⟩
                        refine ⟨_, rfl, ?_⟩
                        have HI6 := Aside0.mk ((HI.out.below (W2 := wr.drew) (Below.refl _ _).drew).below hb6)
                        have HL6 := Aside0.mk (show w6.cell? (ad.add i) = some (.string s) from (hb6.cell (World.block_lt_of_cell? wr.drew _ h0)).trans h0)
                        clear hb6
                        refine hK.out _ _ (HL6.out) (fun hHeld => ?_)
                        clear hK K
                        refine norm_ (a' := ?_) ?_ ?_
                        rotate_left
                        · show Act.put _ (some 113) _ = _
                          simp only [Act.put, List.setIfInBounds_toArray, List.set_cons_zero, List.set_cons_succ, i64_w, i32_w]
                          rfl
                        refine pure_ (i := 6) (N := some 115) (v := ?_) (a' := ?_) #[true, true, true, true, true, true, true, true, true, true, false, false] rfl rfl (by kernel_rfl) (fun _ _ _ h => h) (Or.inl ⟨by rfl, ?_⟩) ?_ ?_
                        rotate_left
                        · intro w'
                          go_simp
                          with_reducible rfl
                        rotate_left
                        · simp only [Act.put, List.setIfInBounds_toArray, List.set_cons_zero, List.set_cons_succ, i64_w, i32_w]
                          rfl
                        refine pure_ (i := 10) (N := some 119) (v := ?_) (a' := ?_) #[true, true, true, true, true, true, true, true, true, true, true, false] rfl rfl (by kernel_rfl) (fun _ _ _ h => h) (Or.inl ⟨by rfl, ?_⟩) ?_ ?_
                        rotate_left
                        · intro w'
                          go_simp
                          with_reducible rfl
                        rotate_left
                        · simp only [Act.put, List.setIfInBounds_toArray, List.set_cons_zero, List.set_cons_succ, i64_w, i32_w]
                          rfl
                        refine pure_ (i := 11) (N := some 16) (v := ?_) (a' := ?_) #[true, true, true, true, true, true, true, true, true, true, true, true] rfl rfl (by kernel_rfl) (fun _ _ _ h => h) (Or.inl ⟨by rfl, ?_⟩) ?_ ?_
                        rotate_left
                        · intro w'
                          go_simp
                          with_reducible rfl
                        rotate_left
                        · simp only [Act.put, List.setIfInBounds_toArray, List.set_cons_zero, List.set_cons_succ, i64_w, i32_w]
                          rfl
                        refine done_ (by kernel_rfl) ?_
                        clear h0 HI
                        go_wp2_with fail
                        refine (HRD.out _ HI6.out).mono ?_
                        rintro e W9 ⟨rfl, rfl⟩
                        go_wp2_with fail
                        go_roundg (5 - (i + 1))
                        case measure => omega
                        case rel => exact ⟨i + 1, by go_num, by omega, Nat.le_refl _, HI6⟩
                    · have hx2 : ¬ 140 < x := by omega
                      have hw0 : wantS l sv i = cOld := by
                        rw [hwv, hbv, show (min (max 0 x) 140).toNat = 0 by omega]
                        unfold cut
                        simp
                      clear hwv hbv
                      have hrd5 := HI.out.read (by rw [(cE_facts l sv).1]; decide) (i : Int) (cE_read l sv i hlt)
                      rw [hw0] at hrd5
                      have HRD := Aside0.mk hrd5
                      clear hrd5 hw0
                      go_wp2_with fail
                      refine HRD.out.mono ?_
                      rintro e W9 ⟨rfl, rfl⟩
                      go_wp2_with fail
                      go_roundg (5 - (i + 1))
                      case measure => omega
                      case rel => exact ⟨i + 1, by go_num, by omega, Nat.le_refl _, HI⟩
                  · have hdl : decide ((i : Int) < (l.length : Int)) = false := decide_eq_false (by omega)
                    have hw0 : wantS l sv i = cOld := by unfold wantS; rw [if_neg (by omega)]
                    have hrd5 := HI.out.read (by rw [(cE_facts l sv).1]; decide) (i : Int) (cE_read l sv i hlt)
                    rw [hw0] at hrd5
                    have HRD := Aside0.mk hrd5
                    clear hrd5 hw0
                    go_wp2_with fail
                    refine HRD.out.mono ?_
                    rintro e W9 ⟨rfl, rfl⟩
                    go_wp2_with fail
                    go_roundg (5 - (i + 1))
                    case measure => omega
                    case rel => exact ⟨i + 1, by go_num, by omega, Nat.le_refl _, HI⟩
                · have hds : decide ((i : Int) < (sv.length : Int)) = false := decide_eq_false (by omega)
                  have hw0 : wantS l sv i = cOld := by
                    unfold wantS
                    split
                    · have : bytesAt sv i = 0 := by unfold bytesAt; rw [List.getElem?_eq_none (by omega)]
                      rw [this]
                      unfold cut
                      simp
                    · rfl
                  have hrd5 := HI.out.read (by rw [(cE_facts l sv).1]; decide) (i : Int) (cE_read l sv i hlt)
                  rw [hw0] at hrd5
                  have HRD := Aside0.mk hrd5
                  clear hrd5 hw0
                  go_wp2_with fail
                  refine HRD.out.mono ?_
                  rintro e W9 ⟨rfl, rfl⟩
                  go_wp2_with fail
                  go_roundg (5 - (i + 1))
                  case measure => omega
                  case rel => exact ⟨i + 1, by go_num, by omega, Nat.le_refl _, HI⟩
              · obtain rfl : i = 5 := by omega
                have HR5 := Aside0.mk (HI.out.read (by rw [(cE_facts l sv).1]; decide) 5 (cE_read5 l sv))
                have hyy : (cTwo.toList == cTwo.toList) = true := bytes_yes rfl
                go_wp2_with fail
                refine HR5.out.mono ?_
                rintro e W9 ⟨rfl, rfl⟩
                go_wp2_with fail
                refine (E2.out wr).mono ?_
                rintro e W10 ⟨rfl, hb10⟩
                have HI10 := Aside0.mk (HI.out.below hb10)
                clear hb10 HI HR5
                go_wp2_with fail
                refine (HI10.out.pend (by rw [(cE_facts l sv).1]; decide) 2 (cE_two l sv)).mono ?_
                rintro e W11 ⟨rfl, hi11⟩
                have HI11 := Aside0.mk hi11
                clear hi11 HI10
                go_wp2_with fail
                refine (HI11.out.pend (by rw [(cE_facts l sv).1]; decide) 1 (cE_one l sv)).mono ?_
                rintro e W12 ⟨rfl, hi12⟩
                have HI12 := Aside0.mk hi12
                clear hi12 HI11
                go_wp2_with fail
                go_ret
                exact ⟨rfl, HI12.out.bel⟩
end Go.Proofs.Ytflajmgichdhhaa.PG

/- The reference's reads: there, Read, Earlier, Waiting. -/
import Derived.Test.YtflajmgichdhhaaRefNew
import Derived.BigQuiet


namespace Go.Proofs.Ytflajmgichdhhaa.PG
open Go.RowKit Go.Proofs.YtflajmgichdhhaaW.PrintWords Go.Proofs.YtflajmgichdhhaaW.PrintLast Go.Proofs.YtflajmgichdhhaaW.PrintMore

set_option linter.unusedVariables false
set_option linter.unusedSimpArgs false
/-! ### the reference's reads -/
section
variable {W : World} {A0 A1 A2 A3 A6 : Option Addr} {n0 c0 n1 c1 n2 c2 n3 c3 n6 c6 : Nat} {fa : Bool} {fu : Int}
set_option maxRecDepth 100000 in
theorem there_ref (W : World) (i : Int) :
    Calls Try.prog 54 #[.agg #[.slice A0 n0 c0, .slice A1 n1 c1, .slice A2 n2 c2, .slice A3 n3 c3, .bool fa, .int .i64 fu, .slice A6 n6 c6], .int .i64 i] W fun e W' => e = .returned (.bool (decide (0 ≤ i ∧ i < (n0 : Int)))) ∧ Below W.heap.size W W' := by
  by_cases h0 : 0 ≤ i
  · have hd0 : decide (0 ≤ i) = true := decide_eq_true h0
    have hres : decide (0 ≤ i ∧ i < (n0 : Int)) = decide (i < (n0 : Int)) := by simp [h0]
    rw [hres]
    clear hres h0
    go_enter Try.func54, Try.ntmps54
    go_wp2_with fail
    go_ret
    exact ⟨rfl, below_alloc (Below.refl _ _) _⟩
  · have hd0 : decide (0 ≤ i) = false := decide_eq_false h0
    have hres : decide (0 ≤ i ∧ i < (n0 : Int)) = false := by simp [h0]
    rw [hres]
    clear hres h0
    go_enter Try.func54, Try.ntmps54
    go_wp2_with fail
    go_ret
    exact ⟨rfl, below_alloc (Below.refl _ _) _⟩
theorem row_at {w : World} {A : Option Addr} {n : Nat} {xs : List (List ByteArray)} (h : Kd.C (Kd.slice 9 Kd.string) w A n xs) (i : Nat) (hi : i < n) :
    ∃ ad Ai ci, A = some ad ∧ w.cell? (ad.add i) = some (.slice Ai (xs.getD i []).length ci) ∧ (xs.getD i []).length ≤ ci ∧ Kd.C Kd.string w Ai (xs.getD i []).length (xs.getD i []) := by
  obtain ⟨h1, h2, h3⟩ := h
  obtain ⟨ad, e, hc⟩ := h3 (by omega)
  obtain ⟨c, c1, c2, c3⟩ := hc i (xs.getD i []) (by rw [List.getD_eq_getElem?_getD, List.getElem?_eq_getElem (by omega)]; rfl)
  obtain ⟨Ai, ci, rfl, k1, k2⟩ := c2
  have := c3 0 _ rfl
  exact ⟨ad, Ai, ci, e, by simpa [show (Kd.slice 9 Kd.string).sz = 1 from rfl] using this, k1, k2⟩
set_option maxRecDepth 100000 in
theorem earlier_ref (W : World) (ol : List (List ByteArray)) (hC : Kd.C (Kd.slice 9 Kd.string) W A1 ol.length ol) (hl : ol.length = n0) (i : Int) :
    Calls Try.prog 42 #[.agg #[.slice A0 n0 c0, .slice A1 ol.length c1, .slice A2 n2 c2, .slice A3 n3 c3, .bool fa, .int .i64 fu, .slice A6 n6 c6], .int .i64 i] W fun e W' => e = .returned (.int .i64 (if 0 ≤ i ∧ i < (n0 : Int) then ((ol.getD i.toNat []).length : Int) else 0)) ∧ Below W.heap.size W W' := by
  have HT := Aside0.mk (fun W => there_ref (A0 := A0) (A1 := A1) (A2 := A2) (A3 := A3) (A6 := A6) (n0 := n0) (c0 := c0) (n1 := ol.length) (c1 := c1) (n2 := n2) (c2 := c2) (n3 := n3) (c3 := c3) (n6 := n6) (c6 := c6) (fa := fa) (fu := fu) W i)
  by_cases h : 0 ≤ i ∧ i < (n0 : Int)
  · rw [if_pos h]
    rw [decide_eq_true h] at HT
    obtain ⟨n, rfl⟩ := Int.eq_ofNat_of_zero_le h.1
    have hn : n < ol.length := by omega
    have hnz : ((n : Nat) : Int) < (ol.length : Int) := by omega
    have HC := Aside0.mk hC
    have HN := Aside0.mk hn
    clear h hl hC
    rw [Int.toNat_natCast]
    obtain ⟨m, hm⟩ : ∃ m, m = (ol.getD n []).length := ⟨_, rfl⟩
    rw [← hm]
    have HM := Aside0.mk hm
    clear hm
    go_enter Try.func42, Try.ntmps42
    go_wp2_with fail
    obtain ⟨bx, hbx⟩ : ∃ bx, bx = W.heap.size := ⟨_, rfl⟩
    obtain ⟨w1, hw⟩ : ∃ w1, w1 = W.alloc (.cells #[.slice A0 n0 c0, .slice A1 ol.length c1, .slice A2 n2 c2, .slice A3 n3 c3, .bool fa, .int .i64 fu, .slice A6 n6 c6] 31) := ⟨_, rfl⟩
    have hx : w1.heap[bx]? = some (.cells #[.slice A0 n0 c0, .slice A1 ol.length c1, .slice A2 n2 c2, .slice A3 n3 c3, .bool fa, .int .i64 fu, .slice A6 n6 c6] 31 (0, 0)) := by rw [hw, hbx]; exact blk_new _ _
    have hb : Below W.heap.size W w1 := by rw [hw]; exact below_alloc (Below.refl _ _) _
    rw [← hw, ← hbx]
    have k0 : w1.cell? ⟨bx, 0, none⟩ = some (.slice A0 n0 c0) := by rw [blk_cell hx]; rfl
    have k1 : w1.cell? ⟨bx, 1, none⟩ = some (.slice A1 ol.length c1) := by rw [blk_cell hx]; rfl
    have k2 : w1.cell? ⟨bx, 2, none⟩ = some (.slice A2 n2 c2) := by rw [blk_cell hx]; rfl
    have k3 : w1.cell? ⟨bx, 3, none⟩ = some (.slice A3 n3 c3) := by rw [blk_cell hx]; rfl
    have k4 : w1.cell? ⟨bx, 4, none⟩ = some (.bool fa) := by rw [blk_cell hx]; rfl
    have k5 : w1.cell? ⟨bx, 5, none⟩ = some (.int .i64 fu) := by rw [blk_cell hx]; rfl
    have k6 : w1.cell? ⟨bx, 6, none⟩ = some (.slice A6 n6 c6) := by rw [blk_cell hx]; rfl
    have HX := Aside0.mk hx
    have HB := Aside0.mk hb
    clear hw hx hb hbx
    refine (HT.out w1).mono ?_
    rintro e w2 ⟨rfl, hb⟩
    clear k0 k1 k2 k3 k4 k5 k6
    have hx := blk_below HX.out hb
    have k0 : w2.cell? ⟨bx, 0, none⟩ = some (.slice A0 n0 c0) := by rw [blk_cell hx]; rfl
    have k1 : w2.cell? ⟨bx, 1, none⟩ = some (.slice A1 ol.length c1) := by rw [blk_cell hx]; rfl
    have k2 : w2.cell? ⟨bx, 2, none⟩ = some (.slice A2 n2 c2) := by rw [blk_cell hx]; rfl
    have k3 : w2.cell? ⟨bx, 3, none⟩ = some (.slice A3 n3 c3) := by rw [blk_cell hx]; rfl
    have k4 : w2.cell? ⟨bx, 4, none⟩ = some (.bool fa) := by rw [blk_cell hx]; rfl
    have k5 : w2.cell? ⟨bx, 5, none⟩ = some (.int .i64 fu) := by rw [blk_cell hx]; rfl
    have k6 : w2.cell? ⟨bx, 6, none⟩ = some (.slice A6 n6 c6) := by rw [blk_cell hx]; rfl
    have hb2 := HB.out.trans (hb.mono HB.out.size)
    clear hb HX HB
    have HX := Aside0.mk hx
    have HB := Aside0.mk hb2
    clear hx hb2
    obtain ⟨ad, Ai, ci, e, q0, q1, q2⟩ := row_at (Kd.C_below HC.out HB.out) n HN.out
    subst e
    rw [← HM.out] at q0
    clear q1 q2 hn
    go_wp2_with fail
    go_ret
    exact ⟨rfl, HB.out⟩
  · rw [if_neg h]
    rw [decide_eq_false h] at HT
    clear h hl hC
    go_enter Try.func42, Try.ntmps42
    go_wp2_with fail
    obtain ⟨bx, hbx⟩ : ∃ bx, bx = W.heap.size := ⟨_, rfl⟩
    obtain ⟨w1, hw⟩ : ∃ w1, w1 = W.alloc (.cells #[.slice A0 n0 c0, .slice A1 ol.length c1, .slice A2 n2 c2, .slice A3 n3 c3, .bool fa, .int .i64 fu, .slice A6 n6 c6] 31) := ⟨_, rfl⟩
    have hx : w1.heap[bx]? = some (.cells #[.slice A0 n0 c0, .slice A1 ol.length c1, .slice A2 n2 c2, .slice A3 n3 c3, .bool fa, .int .i64 fu, .slice A6 n6 c6] 31 (0, 0)) := by rw [hw, hbx]; exact blk_new _ _
    have hb : Below W.heap.size W w1 := by rw [hw]; exact below_alloc (Below.refl _ _) _
    rw [← hw, ← hbx]
    have k0 : w1.cell? ⟨bx, 0, none⟩ = some (.slice A0 n0 c0) := by rw [blk_cell hx]; rfl
    have k1 : w1.cell? ⟨bx, 1, none⟩ = some (.slice A1 ol.length c1) := by rw [blk_cell hx]; rfl
    have k2 : w1.cell? ⟨bx, 2, none⟩ = some (.slice A2 n2 c2) := by rw [blk_cell hx]; rfl
    have k3 : w1.cell? ⟨bx, 3, none⟩ = some (.slice A3 n3 c3) := by rw [blk_cell hx]; rfl
    have k4 : w1.cell? ⟨bx, 4, none⟩ = some (.bool fa) := by rw [blk_cell hx]; rfl
    have k5 : w1.cell? ⟨bx, 5, none⟩ = some (.int .i64 fu) := by rw [blk_cell hx]; rfl
    have k6 : w1.cell? ⟨bx, 6, none⟩ = some (.slice A6 n6 c6) := by rw [blk_cell hx]; rfl
    have HX := Aside0.mk hx
    have HB := Aside0.mk hb
    clear hw hx hb hbx
    refine (HT.out w1).mono ?_
    rintro e w2 ⟨rfl, hb⟩
    clear k0 k1 k2 k3 k4 k5 k6
    have hx := blk_below HX.out hb
    have k0 : w2.cell? ⟨bx, 0, none⟩ = some (.slice A0 n0 c0) := by rw [blk_cell hx]; rfl
    have k1 : w2.cell? ⟨bx, 1, none⟩ = some (.slice A1 ol.length c1) := by rw [blk_cell hx]; rfl
    have k2 : w2.cell? ⟨bx, 2, none⟩ = some (.slice A2 n2 c2) := by rw [blk_cell hx]; rfl
    have k3 : w2.cell? ⟨bx, 3, none⟩ = some (.slice A3 n3 c3) := by rw [blk_cell hx]; rfl
    have k4 : w2.cell? ⟨bx, 4, none⟩ = some (.bool fa) := by rw [blk_cell hx]; rfl
    have k5 : w2.cell? ⟨bx, 5, none⟩ = some (.int .i64 fu) := by rw [blk_cell hx]; rfl
    have k6 : w2.cell? ⟨bx, 6, none⟩ = some (.slice A6 n6 c6) := by rw [blk_cell hx]; rfl
    have hb2 := HB.out.trans (hb.mono HB.out.size)
    clear hb HX HB
    have HX := Aside0.mk hx
    have HB := Aside0.mk hb2
    clear hx hb2
    go_wp2_with fail
    go_ret
    exact ⟨rfl, HB.out⟩
set_option maxRecDepth 100000 in
theorem content_ref (W : World) (st : List ByteArray) (pd : List S99) (hC0 : Kd.C Kd.string W A0 st.length st) (hC2 : Kd.C k99 W A2 pd.length pd) (hpl : pd.length ≤ 1000000) (n : Nat) (hn : n < st.length) :
    Calls Try.prog 58 #[.agg #[.slice A0 st.length c0, .slice A1 n1 c1, .slice A2 pd.length c2, .slice A3 n3 c3, .bool fa, .int .i64 fu, .slice A6 n6 c6], .int .i64 n] W fun e W' => e = .returned (.string ((lastOf n pd).getD (st.getD n ⟨#[]⟩))) ∧ Below W.heap.size W W' := by
  have HC0 := Aside0.mk hC0
  have HC2 := Aside0.mk hC2
  have hnz : ((n : Nat) : Int) < (st.length : Int) := by omega
  have HN := Aside0.mk hn
  clear hC0 hC2 hn
  go_enter Try.func58, Try.ntmps58
  go_wp2_with fail
  obtain ⟨bx, hbx⟩ : ∃ bx, bx = W.heap.size := ⟨_, rfl⟩
  obtain ⟨w1, hw⟩ : ∃ w1, w1 = W.alloc (.cells #[.slice A0 st.length c0, .slice A1 n1 c1, .slice A2 pd.length c2, .slice A3 n3 c3, .bool fa, .int .i64 fu, .slice A6 n6 c6] 31) := ⟨_, rfl⟩
  have hx : w1.heap[bx]? = some (.cells #[.slice A0 st.length c0, .slice A1 n1 c1, .slice A2 pd.length c2, .slice A3 n3 c3, .bool fa, .int .i64 fu, .slice A6 n6 c6] 31 (0, 0)) := by rw [hw, hbx]; exact blk_new _ _
  have hb : Below W.heap.size W w1 := by rw [hw]; exact below_alloc (Below.refl _ _) _
  rw [← hw, ← hbx]
  have k0 : w1.cell? ⟨bx, 0, none⟩ = some (.slice A0 st.length c0) := by rw [blk_cell hx]; rfl
  have k1 : w1.cell? ⟨bx, 1, none⟩ = some (.slice A1 n1 c1) := by rw [blk_cell hx]; rfl
  have k2 : w1.cell? ⟨bx, 2, none⟩ = some (.slice A2 pd.length c2) := by rw [blk_cell hx]; rfl
  have k3 : w1.cell? ⟨bx, 3, none⟩ = some (.slice A3 n3 c3) := by rw [blk_cell hx]; rfl
  have k4 : w1.cell? ⟨bx, 4, none⟩ = some (.bool fa) := by rw [blk_cell hx]; rfl
  have k5 : w1.cell? ⟨bx, 5, none⟩ = some (.int .i64 fu) := by rw [blk_cell hx]; rfl
  have k6 : w1.cell? ⟨bx, 6, none⟩ = some (.slice A6 n6 c6) := by rw [blk_cell hx]; rfl
  have HX := Aside0.mk hx
  have HB := Aside0.mk hb
  clear hw hx hb hbx
  go_loop [5] (fun t => ∃ k : Nat, t = .int .i64 ((k : Int) - 1) ∧ k ≤ pd.length ∧ Aside0 (lastOf n pd = lastOf n (pd.take k))) (fun t => (intOf t + 1).toNat)
  case atStart => exact ⟨pd.length, rfl, Nat.le_refl _, ⟨by rw [List.take_length]⟩⟩
  case round =>
    obtain ⟨k, rfl, hk, HL⟩ := hrel
    cases k with
    | zero =>
      rw [show (((0 : Nat) : Int) - 1) = -1 from rfl]
      obtain ⟨ad, e, q0⟩ := Kd.at_string (Kd.C_below HC0.out HB.out) (n : Int) (by omega) hnz
      rw [Int.toNat_natCast, show rdOf ByteArray.empty st (n : Int) = st.getD n ⟨#[]⟩ by unfold rdOf; rw [Int.toNat_natCast]; rfl] at q0
      obtain ⟨x, hx⟩ : ∃ x, x = st.getD n ⟨#[]⟩ := ⟨_, rfl⟩
      rw [← hx] at q0
      have HXX := Aside0.mk hx
      subst e
      clear hx
      go_wp2_with fail
      go_ret
      refine ⟨?_, HB.out⟩
      have e1 := HL.out
      rw [List.take_zero] at e1
      rw [e1, HXX.out]
      rfl
    | succ j =>
      rw [show (((j + 1 : Nat) : Int) - 1) = (j : Int) from by omega]
      have hjl : (j : Int) < (pd.length : Int) := by omega
      obtain ⟨ad, e, q0, q1, q2⟩ := at_T99 (Kd.C_below HC2.out HB.out) (j : Int) (by omega) hjl
      rw [rdT99_at _ j (by omega)] at q0 q1 q2
      cases e
      rw [Int.toNat_natCast] at q0 q1 q2
      have hs := lastOf_step n pd j (by omega)
      obtain ⟨w, hw⟩ : ∃ w, w = pd[j]'(by omega) := ⟨_, rfl⟩
      rw [← hw] at q0 q1 q2 hs
      have HS := Aside0.mk hs
      clear hs hw
      by_cases hq : w.f1 = (n : Int)
      · have hb : (w.f1 == (n : Int)) = true := by rw [hq]; simp
        have HQ := Aside0.mk hq
        clear hq
        go_wp2_with fail
        go_ret
        refine ⟨?_, HB.out⟩
        have e1 := HL.out
        have e2 := HS.out
        rw [if_pos HQ.out] at e2
        rw [e1, e2]
        rfl
      · have hb : (w.f1 == (n : Int)) = false := by simpa using hq
        have HQ := Aside0.mk hq
        clear hq
        go_wp2_with fail
        go_round
        case rel =>
          refine ⟨j, rfl, by omega, ⟨?_⟩⟩
          rw [HL.out, HS.out, if_neg HQ.out]
        case measure => simp [intOf]
set_option maxRecDepth 100000 in
theorem waiting_ref (W : World) (pd : List S99) (hC2 : Kd.C k99 W A2 pd.length pd) (hpl : pd.length ≤ 1000000) (sys : Int) :
    Calls Try.prog 43 #[.agg #[.slice A0 n0 c0, .slice A1 n1 c1, .slice A2 pd.length c2, .slice A3 n3 c3, .bool fa, .int .i64 fu, .slice A6 n6 c6], .int .i64 sys] W fun e W' => e = .returned (.int .i64 ((pd.filter (isOf sys)).length : Int)) ∧ Below W.heap.size W W' := by
  have HC2 := Aside0.mk hC2
  clear hC2
  go_enter Try.func43, Try.ntmps43
  go_wp2_with fail
  obtain ⟨bx, hbx⟩ : ∃ bx, bx = W.heap.size := ⟨_, rfl⟩
  obtain ⟨w1, hw⟩ : ∃ w1, w1 = W.alloc (.cells #[.slice A0 n0 c0, .slice A1 n1 c1, .slice A2 pd.length c2, .slice A3 n3 c3, .bool fa, .int .i64 fu, .slice A6 n6 c6] 31) := ⟨_, rfl⟩
  have hx : w1.heap[bx]? = some (.cells #[.slice A0 n0 c0, .slice A1 n1 c1, .slice A2 pd.length c2, .slice A3 n3 c3, .bool fa, .int .i64 fu, .slice A6 n6 c6] 31 (0, 0)) := by rw [hw, hbx]; exact blk_new _ _
  have hb : Below W.heap.size W w1 := by rw [hw]; exact below_alloc (Below.refl _ _) _
  rw [← hw, ← hbx]
  have k0 : w1.cell? ⟨bx, 0, none⟩ = some (.slice A0 n0 c0) := by rw [blk_cell hx]; rfl
  have k1 : w1.cell? ⟨bx, 1, none⟩ = some (.slice A1 n1 c1) := by rw [blk_cell hx]; rfl
  have k2 : w1.cell? ⟨bx, 2, none⟩ = some (.slice A2 pd.length c2) := by rw [blk_cell hx]; rfl
  have k3 : w1.cell? ⟨bx, 3, none⟩ = some (.slice A3 n3 c3) := by rw [blk_cell hx]; rfl
  have k4 : w1.cell? ⟨bx, 4, none⟩ = some (.bool fa) := by rw [blk_cell hx]; rfl
  have k5 : w1.cell? ⟨bx, 5, none⟩ = some (.int .i64 fu) := by rw [blk_cell hx]; rfl
  have k6 : w1.cell? ⟨bx, 6, none⟩ = some (.slice A6 n6 c6) := by rw [blk_cell hx]; rfl
  have HX := Aside0.mk hx
  have HB := Aside0.mk hb
  clear hw hx hb hbx
  go_loop [5, 6] (fun t u => ∃ k : Nat, t = .int .i64 ((((pd.take k).filter (isOf sys)).length : Nat) : Int) ∧ u = .int .i64 (k : Int) ∧ k ≤ pd.length) (fun _ u => (pd.length - intOf u).toNat)
  case atStart => exact ⟨0, rfl, rfl, Nat.zero_le _⟩
  case round =>
    obtain ⟨k, rfl, rfl, hk⟩ := hrel
    by_cases hlt : k < pd.length
    · have hjl : (k : Int) < (pd.length : Int) := by omega
      obtain ⟨ad, e, q0, q1, q2⟩ := at_T99 (Kd.C_below HC2.out HB.out) (k : Int) (by omega) hjl
      rw [rdT99_at _ k hlt] at q0 q1 q2
      cases e
      rw [Int.toNat_natCast] at q0 q1 q2
      have hs := filter_step (isOf sys) pd k hlt
      obtain ⟨w, hw⟩ : ∃ w, w = pd[k] := ⟨_, rfl⟩
      rw [← hw] at q0 q1 q2 hs
      obtain ⟨m, hm⟩ : ∃ m, m = ((pd.take k).filter (isOf sys)).length := ⟨_, rfl⟩
      have hmk : m ≤ 1000000 := by rw [hm]; exact Nat.le_trans (List.length_filter_le _ _) (by simp; omega)
      rw [← hm] at hs ⊢
      have HS := Aside0.mk hs
      clear hs hw hm
      have q3 : isOf sys w = (w.f0 == sys) := rfl
      rw [q3] at HS
      clear q3
      by_cases hq : w.f0 = sys
      · have hb : (w.f0 == sys) = true := by rw [hq]; simp
        have HQ := Aside0.mk hb
        clear hq
        go_wp2_with fail
        go_round
        case rel =>
          refine ⟨k + 1, ?_, by go_num, by omega⟩
          rw [HS.out, if_pos HQ.out]
          go_num
        case measure => simp [intOf]; omega
      · have hb : (w.f0 == sys) = false := by simpa using hq
        have HQ := Aside0.mk hb
        clear hq
        go_wp2_with fail
        go_round
        case rel =>
          refine ⟨k + 1, ?_, by go_num, by omega⟩
          rw [HS.out, HQ.out]
          go_num
        case measure => simp [intOf]; omega
    · obtain rfl : k = pd.length := by omega
      rw [List.take_length]
      go_wp2_with fail
      go_ret
      exact ⟨rfl, HB.out⟩
end
end Go.Proofs.Ytflajmgichdhhaa.PG

/- The device looks like the reference: the walk of same. -/
import Derived.Test.YtflajmgichdhhaaRd
import Derived.BigQuiet


namespace Go.Proofs.Ytflajmgichdhhaa.PG
open Go.RowKit Go.Proofs.YtflajmgichdhhaaW.PrintWords Go.Proofs.YtflajmgichdhhaaW.PrintLast Go.Proofs.YtflajmgichdhhaaW.PrintMore

set_option linter.unusedVariables false
set_option linter.unusedSimpArgs false
/-- What the reference's value is made of, and what its slices hold. -/
structure RefC (W : World) (v : Value) (A0 A1 A2 A3 A6 : Option Addr) (c0 c1 c2 c3 c6 : Nat) (fl : List Int) (fu : Int) (sv : List Int) (S : DevS) : Prop where
  hv : v = .agg #[.slice A0 S.stable.length c0, .slice A1 S.old.length c1, .slice A2 S.pend.length c2, .slice A3 fl.length c3, .bool S.failed, .int .i64 fu, .slice A6 sv.length c6]
  h0 : Kd.C Kd.string W A0 S.stable.length S.stable
  h1 : Kd.C (Kd.slice 9 Kd.string) W A1 S.old.length S.old
  h2 : Kd.C k99 W A2 S.pend.length S.pend
  h3 : Kd.C (Kd.int .i64) W A3 fl.length fl
  h6 : Kd.C (Kd.int .i64) W A6 sv.length sv
  l0 : S.stable.length ≤ c0
  l1 : S.old.length ≤ c1
  l2 : S.pend.length ≤ c2
  l3 : fl.length ≤ c3
  l6 : sv.length ≤ c6
theorem RefIs.open_ {W : World} {ok : Nat → Prop} {v : Value} {S : DevS} (h : RefIs W ok v S) : ∃ A0 A1 A2 A3 A6 c0 c1 c2 c3 c6 fl fu sv, RefC W v A0 A1 A2 A3 A6 c0 c1 c2 c3 c6 fl fu sv S := by
  obtain ⟨v0, v1, v2, v3, v6, fl, fu, sv, h⟩ := h
  obtain ⟨A0, c0, rfl, l0, h0⟩ := h.h0
  obtain ⟨A1, c1, rfl, l1, h1⟩ := h.h1
  obtain ⟨A2, c2, rfl, l2, h2⟩ := h.h2
  obtain ⟨A3, c3, rfl, l3, h3⟩ := h.h3
  obtain ⟨A6, c6, rfl, l6, h6⟩ := h.h6
  exact ⟨A0, A1, A2, A3, A6, c0, c1, c2, c3, c6, fl, fu, sv, ⟨h.hv, Kd.F_now h0, Kd.F_now h1, Kd.F_now h2, Kd.F_now h3, Kd.F_now h6, l0, l1, l2, l3, l6⟩⟩
section
variable {W : World} {v : Value} {A0 A1 A2 A3 A6 : Option Addr} {c0 c1 c2 c3 c6 : Nat} {fl : List Int} {fu : Int} {sv : List Int} {S : DevS}
set_option maxRecDepth 100000 in
theorem read_ref (h : RefC W v A0 A1 A2 A3 A6 c0 c1 c2 c3 c6 fl fu sv S) (hpl : S.pend.length ≤ 1000000) (w : World) (hbw : Below W.heap.size W w) (i : Int) :
    Calls Try.prog 41 #[v, .int .i64 i] w fun e W' => e = .returned (.tuple #[.string (readS S i).1, .int .i64 (readS S i).2]) ∧ Below w.heap.size w W' := by
  obtain rfl := h.hv
  have HT := Aside0.mk (fun W => there_ref (A0 := A0) (A1 := A1) (A2 := A2) (A3 := A3) (A6 := A6) (c0 := c0) (c1 := c1) (c2 := c2) (c3 := c3) (c6 := c6) (n0 := S.stable.length) (n1 := S.old.length) (n2 := S.pend.length) (n3 := fl.length) (n6 := sv.length) (fa := S.failed) (fu := fu) W i)
  unfold readS
  by_cases hi : 0 ≤ i ∧ i < (S.stable.length : Int)
  · rw [if_pos hi]
    rw [decide_eq_true hi] at HT
    obtain ⟨n, rfl⟩ := Int.eq_ofNat_of_zero_le hi.1
    have hn : n < S.stable.length := by omega
    have HCC := Aside0.mk (fun (w2 : World) (hb : Below w.heap.size w w2) => content_ref (A0 := A0) (A1 := A1) (A2 := A2) (A3 := A3) (A6 := A6) (c0 := c0) (c1 := c1) (c2 := c2) (c3 := c3) (c6 := c6) (n1 := S.old.length) (n3 := fl.length) (n6 := sv.length) (fa := S.failed) (fu := fu) w2 S.stable S.pend (Kd.C_below h.h0 (hbw.trans (hb.mono hbw.size))) (Kd.C_below h.h2 (hbw.trans (hb.mono hbw.size))) hpl n hn)
    rw [show contentS S (n : Int) = (lastOf n S.pend).getD (S.stable.getD n ⟨#[]⟩) by unfold contentS; rw [Int.toNat_natCast]]
    clear h hbw hi hn
    cases hf : S.failed with
    | true =>
      rw [hf] at HT
      clear hf HCC
      rw [if_pos (by simp)]
      go_enter Try.func41, Try.ntmps41
      go_wp2_with fail
      obtain ⟨bx, hbx⟩ : ∃ bx, bx = w.heap.size := ⟨_, rfl⟩
      obtain ⟨w1, hw⟩ : ∃ w1, w1 = w.alloc (.cells #[.slice A0 S.stable.length c0, .slice A1 S.old.length c1, .slice A2 S.pend.length c2, .slice A3 fl.length c3, .bool true, .int .i64 fu, .slice A6 sv.length c6] 31) := ⟨_, rfl⟩
      have hx : w1.heap[bx]? = some (.cells #[.slice A0 S.stable.length c0, .slice A1 S.old.length c1, .slice A2 S.pend.length c2, .slice A3 fl.length c3, .bool true, .int .i64 fu, .slice A6 sv.length c6] 31 (0, 0)) := by rw [hw, hbx]; exact blk_new _ _
      have hb : Below w.heap.size w w1 := by rw [hw]; exact below_alloc (Below.refl _ _) _
      rw [← hw, ← hbx]
      have k0 : w1.cell? ⟨bx, 0, none⟩ = some (.slice A0 S.stable.length c0) := by rw [blk_cell hx]; rfl
      have k1 : w1.cell? ⟨bx, 1, none⟩ = some (.slice A1 S.old.length c1) := by rw [blk_cell hx]; rfl
      have k2 : w1.cell? ⟨bx, 2, none⟩ = some (.slice A2 S.pend.length c2) := by rw [blk_cell hx]; rfl
      have k3 : w1.cell? ⟨bx, 3, none⟩ = some (.slice A3 fl.length c3) := by rw [blk_cell hx]; rfl
      have k4 : w1.cell? ⟨bx, 4, none⟩ = some (.bool true) := by rw [blk_cell hx]; rfl
      have k5 : w1.cell? ⟨bx, 5, none⟩ = some (.int .i64 fu) := by rw [blk_cell hx]; rfl
      have k6 : w1.cell? ⟨bx, 6, none⟩ = some (.slice A6 sv.length c6) := by rw [blk_cell hx]; rfl
      have HX := Aside0.mk hx
      have HB := Aside0.mk hb
      clear hw hx hb hbx
      refine (HT.out w1).mono ?_
      rintro e w2 ⟨rfl, hb⟩
      clear k0 k1 k2 k3 k4 k5 k6
      have hx := blk_below HX.out hb
      have k0 : w2.cell? ⟨bx, 0, none⟩ = some (.slice A0 S.stable.length c0) := by rw [blk_cell hx]; rfl
      have k1 : w2.cell? ⟨bx, 1, none⟩ = some (.slice A1 S.old.length c1) := by rw [blk_cell hx]; rfl
      have k2 : w2.cell? ⟨bx, 2, none⟩ = some (.slice A2 S.pend.length c2) := by rw [blk_cell hx]; rfl
      have k3 : w2.cell? ⟨bx, 3, none⟩ = some (.slice A3 fl.length c3) := by rw [blk_cell hx]; rfl
      have k4 : w2.cell? ⟨bx, 4, none⟩ = some (.bool true) := by rw [blk_cell hx]; rfl
      have k5 : w2.cell? ⟨bx, 5, none⟩ = some (.int .i64 fu) := by rw [blk_cell hx]; rfl
      have k6 : w2.cell? ⟨bx, 6, none⟩ = some (.slice A6 sv.length c6) := by rw [blk_cell hx]; rfl
      have hb2 := HB.out.trans (hb.mono HB.out.size)
      clear hb HX HB
      have HX := Aside0.mk hx
      have HB := Aside0.mk hb2
      clear hx hb2
      go_wp2_with fail
      go_ret2
      exact ⟨rfl, HB.out⟩
    | false =>
      rw [hf] at HT HCC
      clear hf
      rw [if_neg (by simp)]
      obtain ⟨x, hx⟩ : ∃ x, x = (lastOf n S.pend).getD (S.stable.getD n ⟨#[]⟩) := ⟨_, rfl⟩
      rw [← hx] at HCC ⊢
      clear hx
      go_enter Try.func41, Try.ntmps41
      go_wp2_with fail
      obtain ⟨bx, hbx⟩ : ∃ bx, bx = w.heap.size := ⟨_, rfl⟩
      obtain ⟨w1, hw⟩ : ∃ w1, w1 = w.alloc (.cells #[.slice A0 S.stable.length c0, .slice A1 S.old.length c1, .slice A2 S.pend.length c2, .slice A3 fl.length c3, .bool false, .int .i64 fu, .slice A6 sv.length c6] 31) := ⟨_, rfl⟩
      have hx : w1.heap[bx]? = some (.cells #[.slice A0 S.stable.length c0, .slice A1 S.old.length c1, .slice A2 S.pend.length c2, .slice A3 fl.length c3, .bool false, .int .i64 fu, .slice A6 sv.length c6] 31 (0, 0)) := by rw [hw, hbx]; exact blk_new _ _
      have hb : Below w.heap.size w w1 := by rw [hw]; exact below_alloc (Below.refl _ _) _
      rw [← hw, ← hbx]
      have k0 : w1.cell? ⟨bx, 0, none⟩ = some (.slice A0 S.stable.length c0) := by rw [blk_cell hx]; rfl
      have k1 : w1.cell? ⟨bx, 1, none⟩ = some (.slice A1 S.old.length c1) := by rw [blk_cell hx]; rfl
      have k2 : w1.cell? ⟨bx, 2, none⟩ = some (.slice A2 S.pend.length c2) := by rw [blk_cell hx]; rfl
      have k3 : w1.cell? ⟨bx, 3, none⟩ = some (.slice A3 fl.length c3) := by rw [blk_cell hx]; rfl
      have k4 : w1.cell? ⟨bx, 4, none⟩ = some (.bool false) := by rw [blk_cell hx]; rfl
      have k5 : w1.cell? ⟨bx, 5, none⟩ = some (.int .i64 fu) := by rw [blk_cell hx]; rfl
      have k6 : w1.cell? ⟨bx, 6, none⟩ = some (.slice A6 sv.length c6) := by rw [blk_cell hx]; rfl
      have HX := Aside0.mk hx
      have HB := Aside0.mk hb
      clear hw hx hb hbx
      refine (HT.out w1).mono ?_
      rintro e w2 ⟨rfl, hb⟩
      clear k0 k1 k2 k3 k4 k5 k6
      have hx := blk_below HX.out hb
      have k0 : w2.cell? ⟨bx, 0, none⟩ = some (.slice A0 S.stable.length c0) := by rw [blk_cell hx]; rfl
      have k1 : w2.cell? ⟨bx, 1, none⟩ = some (.slice A1 S.old.length c1) := by rw [blk_cell hx]; rfl
      have k2 : w2.cell? ⟨bx, 2, none⟩ = some (.slice A2 S.pend.length c2) := by rw [blk_cell hx]; rfl
      have k3 : w2.cell? ⟨bx, 3, none⟩ = some (.slice A3 fl.length c3) := by rw [blk_cell hx]; rfl
      have k4 : w2.cell? ⟨bx, 4, none⟩ = some (.bool false) := by rw [blk_cell hx]; rfl
      have k5 : w2.cell? ⟨bx, 5, none⟩ = some (.int .i64 fu) := by rw [blk_cell hx]; rfl
      have k6 : w2.cell? ⟨bx, 6, none⟩ = some (.slice A6 sv.length c6) := by rw [blk_cell hx]; rfl
      have hb2 := HB.out.trans (hb.mono HB.out.size)
      clear hb HX HB
      have HX := Aside0.mk hx
      have HB := Aside0.mk hb2
      clear hx hb2
      go_wp2_with fail
      refine (HCC.out w2 HB.out).mono ?_
      rintro e w3 ⟨rfl, hb⟩
      have HB3 := Aside0.mk (HB.out.trans (hb.mono HB.out.size))
      clear hb HB
      go_wp2_with fail
      go_ret2
      exact ⟨rfl, HB3.out⟩
  · rw [if_neg hi]
    rw [decide_eq_false hi] at HT
    clear h hbw hi
    go_enter Try.func41, Try.ntmps41
    go_wp2_with fail
    obtain ⟨bx, hbx⟩ : ∃ bx, bx = w.heap.size := ⟨_, rfl⟩
    obtain ⟨w1, hw⟩ : ∃ w1, w1 = w.alloc (.cells #[.slice A0 S.stable.length c0, .slice A1 S.old.length c1, .slice A2 S.pend.length c2, .slice A3 fl.length c3, .bool S.failed, .int .i64 fu, .slice A6 sv.length c6] 31) := ⟨_, rfl⟩
    have hx : w1.heap[bx]? = some (.cells #[.slice A0 S.stable.length c0, .slice A1 S.old.length c1, .slice A2 S.pend.length c2, .slice A3 fl.length c3, .bool S.failed, .int .i64 fu, .slice A6 sv.length c6] 31 (0, 0)) := by rw [hw, hbx]; exact blk_new _ _
    have hb : Below w.heap.size w w1 := by rw [hw]; exact below_alloc (Below.refl _ _) _
    rw [← hw, ← hbx]
    have k0 : w1.cell? ⟨bx, 0, none⟩ = some (.slice A0 S.stable.length c0) := by rw [blk_cell hx]; rfl
    have k1 : w1.cell? ⟨bx, 1, none⟩ = some (.slice A1 S.old.length c1) := by rw [blk_cell hx]; rfl
    have k2 : w1.cell? ⟨bx, 2, none⟩ = some (.slice A2 S.pend.length c2) := by rw [blk_cell hx]; rfl
    have k3 : w1.cell? ⟨bx, 3, none⟩ = some (.slice A3 fl.length c3) := by rw [blk_cell hx]; rfl
    have k4 : w1.cell? ⟨bx, 4, none⟩ = some (.bool S.failed) := by rw [blk_cell hx]; rfl
    have k5 : w1.cell? ⟨bx, 5, none⟩ = some (.int .i64 fu) := by rw [blk_cell hx]; rfl
    have k6 : w1.cell? ⟨bx, 6, none⟩ = some (.slice A6 sv.length c6) := by rw [blk_cell hx]; rfl
    have HX := Aside0.mk hx
    have HB := Aside0.mk hb
    clear hw hx hb hbx
    refine (HT.out w1).mono ?_
    rintro e w2 ⟨rfl, hb⟩
    clear k0 k1 k2 k3 k4 k5 k6
    have hx := blk_below HX.out hb
    have k0 : w2.cell? ⟨bx, 0, none⟩ = some (.slice A0 S.stable.length c0) := by rw [blk_cell hx]; rfl
    have k1 : w2.cell? ⟨bx, 1, none⟩ = some (.slice A1 S.old.length c1) := by rw [blk_cell hx]; rfl
    have k2 : w2.cell? ⟨bx, 2, none⟩ = some (.slice A2 S.pend.length c2) := by rw [blk_cell hx]; rfl
    have k3 : w2.cell? ⟨bx, 3, none⟩ = some (.slice A3 fl.length c3) := by rw [blk_cell hx]; rfl
    have k4 : w2.cell? ⟨bx, 4, none⟩ = some (.bool S.failed) := by rw [blk_cell hx]; rfl
    have k5 : w2.cell? ⟨bx, 5, none⟩ = some (.int .i64 fu) := by rw [blk_cell hx]; rfl
    have k6 : w2.cell? ⟨bx, 6, none⟩ = some (.slice A6 sv.length c6) := by rw [blk_cell hx]; rfl
    have hb2 := HB.out.trans (hb.mono HB.out.size)
    clear hb HX HB
    have HX := Aside0.mk hx
    have HB := Aside0.mk hb2
    clear hx hb2
    go_wp2_with fail
    go_ret2
    exact ⟨rfl, HB.out⟩
/-- A block beside, held while only new blocks are made. -/
def Held (W : World) (b : Nat) (o : Obj) (w : World) : Prop := Below W.heap.size W w ∧ w.heap[b]? = some o
theorem Held.on {W w w2 : World} {b : Nat} {o : Obj} (h : Held W b o w) (hb : Below w.heap.size w w2) : Held W b o w2 := ⟨h.1.trans (hb.mono h.1.size), blk_below h.2 hb⟩
theorem Held.drew {W w : World} {b : Nat} {o : Obj} (h : Held W b o w) : Held W b o w.drew := h.on (Below.refl _ _).drew
set_option maxRecDepth 100000 in
set_option maxHeartbeats 1000000 in
theorem same_calls {B : Nat} {L : Lay} {F : Nat → Prop} {k : Nat} {ok : Nat → Prop} (hD : DevIs W B L F S) (hR : RefIs W ok v S) (hF : Fine k S) (hk : k ≤ 1000000) :
    Calls Try.prog 15 #[.pointer (some ⟨L.g, 0, none⟩), v] W fun e W' => e = .returned (.bool true) ∧ Below W.heap.size W W' := by
  obtain ⟨A0, A1, A2, A3, A6, c0, c1, c2, c3, c6, fl, fu, sv, hC⟩ := hR.open_
  obtain rfl := hC.hv
  have hpl : S.pend.length ≤ 1000000 := Nat.le_trans hF.plen hk
  have hn1 := hF.n1
  have HSE := Aside0.mk (fun (w : World) (hb : Below W.heap.size W w) => by obtain ⟨vs, pv, uv, m, h⟩ := hD.below hb; exact sectors_calls h)
  have HFA := Aside0.mk (fun (w : World) (hb : Below W.heap.size W w) => by obtain ⟨vs, pv, uv, m, h⟩ := hD.below hb; exact failed_calls h)
  have HRD := Aside0.mk (fun (w : World) (hb : Below W.heap.size W w) => readI (hD.below hb) hpl)
  have HPE := Aside0.mk (fun (w : World) (hb : Below W.heap.size W w) => pendI (hD.below hb) hpl)
  have HOL := Aside0.mk (fun (w : World) (hb : Below W.heap.size W w) => oldI (hD.below hb) hF.len)
  have HRR := Aside0.mk (fun (w : World) (hb : Below W.heap.size W w) => read_ref hC hpl w hb)
  have HRE := Aside0.mk (fun (w : World) (hb : Below W.heap.size W w) (i : Int) => show Calls Try.prog 42 #[.agg #[.slice A0 S.stable.length c0, .slice A1 S.old.length c1, .slice A2 S.pend.length c2, .slice A3 fl.length c3, .bool S.failed, .int .i64 fu, .slice A6 sv.length c6], .int .i64 i] w fun e W' => e = .returned (.int .i64 (oldN S i)) ∧ Below w.heap.size w W' from earlier_ref (A0 := A0) (A1 := A1) (A2 := A2) (A3 := A3) (A6 := A6) (c0 := c0) (c1 := c1) (c2 := c2) (c3 := c3) (c6 := c6) (n0 := S.stable.length) (n2 := S.pend.length) (n3 := fl.length) (n6 := sv.length) (fa := S.failed) (fu := fu) w S.old (Kd.C_below hC.h1 hb) hF.len i)
  have HRW := Aside0.mk (fun (w : World) (hb : Below W.heap.size W w) => waiting_ref (A0 := A0) (A1 := A1) (A2 := A2) (A3 := A3) (A6 := A6) (c0 := c0) (c1 := c1) (c2 := c2) (c3 := c3) (c6 := c6) (n0 := S.stable.length) (n1 := S.old.length) (n3 := fl.length) (n6 := sv.length) (fa := S.failed) (fu := fu) w S.pend (Kd.C_below hC.h2 hb) hpl)
  have HPB := Aside0.mk (fun i => show pendN S i ≤ 1000000 from Nat.le_trans (List.length_filter_le _ _) hpl)
  clear hD hR hC hF hpl
  have HW0 := Aside0.mk hn1
  obtain ⟨n0, hn0⟩ : ∃ n0, n0 = S.stable.length := ⟨_, rfl⟩
  obtain ⟨n1, hn1'⟩ : ∃ n1, n1 = S.old.length := ⟨_, rfl⟩
  obtain ⟨n2, hn2⟩ : ∃ n2, n2 = S.pend.length := ⟨_, rfl⟩
  obtain ⟨fa, hfa⟩ : ∃ fa, fa = S.failed := ⟨_, rfl⟩
  rw [← hn0] at HSE HRR HRE HRW hn1
  rw [← hn1'] at HRR HRE HRW
  rw [← hn2] at HRR HRE HRW
  rw [← hfa] at HFA HRR HRE HRW
  rw [← hn0, ← hn1', ← hn2, ← hfa]
  clear hn0 hn1' hn2 hfa HW0
  have nf : (fa != fa) = false := by simp
  have nn : ((n0 : Int) != (n0 : Int)) = false := by simp
  go_enter Try.func15, Try.ntmps15
  go_wp2_with fail
  obtain ⟨bx, hbx⟩ : ∃ bx, bx = W.heap.size := ⟨_, rfl⟩
  obtain ⟨w1, hw⟩ : ∃ w1, w1 = W.alloc (.cells #[.slice A0 n0 c0, .slice A1 n1 c1, .slice A2 n2 c2, .slice A3 fl.length c3, .bool fa, .int .i64 fu, .slice A6 sv.length c6] 31) := ⟨_, rfl⟩
  have hx : w1.heap[bx]? = some (.cells #[.slice A0 n0 c0, .slice A1 n1 c1, .slice A2 n2 c2, .slice A3 fl.length c3, .bool fa, .int .i64 fu, .slice A6 sv.length c6] 31 (0, 0)) := by rw [hw, hbx]; exact blk_new _ _
  have hb : Below W.heap.size W w1 := by rw [hw]; exact below_alloc (Below.refl _ _) _
  rw [← hw, ← hbx]
  have k0 : w1.cell? ⟨bx, 0, none⟩ = some (.slice A0 n0 c0) := by rw [blk_cell hx]; rfl
  have k1 : w1.cell? ⟨bx, 1, none⟩ = some (.slice A1 n1 c1) := by rw [blk_cell hx]; rfl
  have k2 : w1.cell? ⟨bx, 2, none⟩ = some (.slice A2 n2 c2) := by rw [blk_cell hx]; rfl
  have k3 : w1.cell? ⟨bx, 3, none⟩ = some (.slice A3 fl.length c3) := by rw [blk_cell hx]; rfl
  have k4 : w1.cell? ⟨bx, 4, none⟩ = some (.bool fa) := by rw [blk_cell hx]; rfl
  have k5 : w1.cell? ⟨bx, 5, none⟩ = some (.int .i64 fu) := by rw [blk_cell hx]; rfl
  have k6 : w1.cell? ⟨bx, 6, none⟩ = some (.slice A6 sv.length c6) := by rw [blk_cell hx]; rfl
  have HX := Aside0.mk hx
  have HB := Aside0.mk hb
  clear hw hx hb hbx
  have HK0 := Aside0.mk (fun w (h : Held W bx (.cells #[.slice A0 n0 c0, .slice A1 n1 c1, .slice A2 n2 c2, .slice A3 fl.length c3, .bool fa, .int .i64 fu, .slice A6 sv.length c6] 31) w) => (show w.cell? ⟨bx, 0, none⟩ = some (.slice A0 n0 c0) by rw [blk_cell h.2]; rfl))
  have HK1 := Aside0.mk (fun w (h : Held W bx (.cells #[.slice A0 n0 c0, .slice A1 n1 c1, .slice A2 n2 c2, .slice A3 fl.length c3, .bool fa, .int .i64 fu, .slice A6 sv.length c6] 31) w) => (show w.cell? ⟨bx, 1, none⟩ = some (.slice A1 n1 c1) by rw [blk_cell h.2]; rfl))
  have HK2 := Aside0.mk (fun w (h : Held W bx (.cells #[.slice A0 n0 c0, .slice A1 n1 c1, .slice A2 n2 c2, .slice A3 fl.length c3, .bool fa, .int .i64 fu, .slice A6 sv.length c6] 31) w) => (show w.cell? ⟨bx, 2, none⟩ = some (.slice A2 n2 c2) by rw [blk_cell h.2]; rfl))
  have HK3 := Aside0.mk (fun w (h : Held W bx (.cells #[.slice A0 n0 c0, .slice A1 n1 c1, .slice A2 n2 c2, .slice A3 fl.length c3, .bool fa, .int .i64 fu, .slice A6 sv.length c6] 31) w) => (show w.cell? ⟨bx, 3, none⟩ = some (.slice A3 fl.length c3) by rw [blk_cell h.2]; rfl))
  have HK4 := Aside0.mk (fun w (h : Held W bx (.cells #[.slice A0 n0 c0, .slice A1 n1 c1, .slice A2 n2 c2, .slice A3 fl.length c3, .bool fa, .int .i64 fu, .slice A6 sv.length c6] 31) w) => (show w.cell? ⟨bx, 4, none⟩ = some (.bool fa) by rw [blk_cell h.2]; rfl))
  have HK5 := Aside0.mk (fun w (h : Held W bx (.cells #[.slice A0 n0 c0, .slice A1 n1 c1, .slice A2 n2 c2, .slice A3 fl.length c3, .bool fa, .int .i64 fu, .slice A6 sv.length c6] 31) w) => (show w.cell? ⟨bx, 5, none⟩ = some (.int .i64 fu) by rw [blk_cell h.2]; rfl))
  have HK6 := Aside0.mk (fun w (h : Held W bx (.cells #[.slice A0 n0 c0, .slice A1 n1 c1, .slice A2 n2 c2, .slice A3 fl.length c3, .bool fa, .int .i64 fu, .slice A6 sv.length c6] 31) w) => (show w.cell? ⟨bx, 6, none⟩ = some (.slice A6 sv.length c6) by rw [blk_cell h.2]; rfl))
  have HH := Aside0.mk (show Held W bx (.cells #[.slice A0 n0 c0, .slice A1 n1 c1, .slice A2 n2 c2, .slice A3 fl.length c3, .bool fa, .int .i64 fu, .slice A6 sv.length c6] 31) w1 from ⟨HB.out, HX.out⟩)
  obtain ⟨O, hO⟩ : ∃ O, O = (.cells #[.slice A0 n0 c0, .slice A1 n1 c1, .slice A2 n2 c2, .slice A3 fl.length c3, .bool fa, .int .i64 fu, .slice A6 sv.length c6] 31 : Obj) := ⟨_, rfl⟩
  rw [← hO] at HH HK0 HK1 HK2 HK3 HK4 HK5 HK6
  have GSE := Aside0.mk (fun w (h : Held W bx O w) => (HSE.out w h.1).mono (R' := fun e w' => e = .returned (.int .i64 (n0 : Int)) ∧ Held W bx O w') (fun e w' ⟨he, hw⟩ => ⟨he, hw ▸ h⟩))
  have GFA := Aside0.mk (fun w (h : Held W bx O w) => (HFA.out w h.1).mono (R' := fun e w' => e = .returned (.bool fa) ∧ Held W bx O w') (fun e w' ⟨he, hw⟩ => ⟨he, hw ▸ h⟩))
  have GRD := Aside0.mk (fun w (h : Held W bx O w) (i : Int) => (HRD.out w h.1 i).mono (R' := fun e w' => e = .returned (.tuple #[.string (readS S i).1, .int .i64 (readS S i).2]) ∧ Held W bx O w') (fun e w' ⟨he, hw⟩ => ⟨he, hw ▸ h⟩))
  have GOL := Aside0.mk (fun w (h : Held W bx O w) (i : Int) => (HOL.out w h.1 i).mono (R' := fun e w' => e = .returned (.int .i64 (oldN S i)) ∧ Held W bx O w') (fun e w' ⟨he, hw⟩ => ⟨he, hw ▸ h⟩))
  have GPE := Aside0.mk (fun w (h : Held W bx O w) (i : Int) => (HPE.out w h.1 i).mono (R' := fun e w' => e = .returned (.int .i64 (pendN S i : Int)) ∧ Held W bx O w') (fun e w' ⟨he, hw⟩ => ⟨he, h.on hw⟩))
  have GRR := Aside0.mk (fun w (h : Held W bx O w) (i : Int) => (HRR.out w h.1 i).mono (R' := fun e w' => e = .returned (.tuple #[.string (readS S i).1, .int .i64 (readS S i).2]) ∧ Held W bx O w') (fun e w' ⟨he, hw⟩ => ⟨he, h.on hw⟩))
  have GRE := Aside0.mk (fun w (h : Held W bx O w) (i : Int) => (HRE.out w h.1 i).mono (R' := fun e w' => e = .returned (.int .i64 (oldN S i)) ∧ Held W bx O w') (fun e w' ⟨he, hw⟩ => ⟨he, h.on hw⟩))
  have GRW := Aside0.mk (fun w (h : Held W bx O w) (i : Int) => (HRW.out w h.1 i).mono (R' := fun e w' => e = .returned (.int .i64 (pendN S i : Int)) ∧ Held W bx O w') (fun e w' ⟨he, hw⟩ => ⟨he, h.on hw⟩))
  have HH0 := Aside0.mk HH.out.drew
  clear HX HB hO HSE HFA HRD HOL HPE HRR HRE HRW HH
  refine start_ (n := 13) (S := fun w' => w'.cell? ⟨bx, 0, none⟩ = some (.slice A0 n0 c0) ∧ w'.cell? ⟨bx, 4, none⟩ = some (.bool fa)) (ds := []) #[false, false, false, false, false, false, false, false, false, false, false, false, false] (by kernel_rfl) rfl rfl ⟨k0, k4⟩ (fun hHeld => ?_)
  refine pure_ (i := 0) (N := some 11) (v := ?_) (a' := ?_) #[true, false, false, false, false, false, false, false, false, false, false, false, false] rfl rfl (by kernel_rfl) (fun _ _ _ h => h) (Or.inl ⟨by rfl, ?_⟩) ?_ ?_
  rotate_left
  · intro w'
    go_simp
    with_reducible rfl
  rotate_left
  · simp only [Act.put, List.setIfInBounds_toArray, List.set_cons_zero, List.set_cons_succ, i64_w, i32_w]
    rfl
  refine pure_ (i := 2) (N := some 13) (v := ?_) (a' := ?_) #[true, false, true, false, false, false, false, false, false, false, false, false, false] rfl rfl (by kernel_rfl) (fun _ _ _ h => h) (Or.inl ⟨by rfl, ?_⟩) ?_ ?_
  rotate_left
  · intro w'
    go_simp
    with_reducible rfl
  rotate_left
  · simp only [Act.put, List.setIfInBounds_toArray, List.set_cons_zero, List.set_cons_succ, i64_w, i32_w]
    rfl
  refine take_ (i := 3) (N := some 14) (v := ?_) (a' := ?_) #[true, false, true, true, false, false, false, false, false, false, false, false, false] rfl rfl (by kernel_rfl) (fun _ _ _ h => h) (Or.inl ⟨by rfl, ?_⟩) hHeld ?_ ?_
  rotate_left
  · rintro w' ⟨s0, s1⟩
    go_simp
    with_reducible rfl
  rotate_left
  · simp only [Act.put, List.setIfInBounds_toArray, List.set_cons_zero, List.set_cons_succ, i64_w, i32_w]
    rfl
  refine pure_ (i := 4) (N := some 15) (v := ?_) (a' := ?_) #[true, false, true, true, true, false, false, false, false, false, false, false, false] rfl rfl (by kernel_rfl) (fun _ _ _ h => h) (Or.inl ⟨by rfl, ?_⟩) ?_ ?_
  rotate_left
  · intro w'
    go_simp
    with_reducible rfl
  rotate_left
  · simp only [Act.put, List.setIfInBounds_toArray, List.set_cons_zero, List.set_cons_succ, i64_w, i32_w]
    rfl
  refine one_ (i := 1) (N := some 12) #[true, true, true, true, true, false, false, false, false, false, false, false, false] rfl rfl (by kernel_rfl) (by decide) (fun K hK => ?_)
  refine goes_ Try.func39 (by kernel_rfl) rfl #[.pointer (some ⟨L.g, 0, none⟩)] (by rfl) rfl rfl (by simp only [List.map_toArray, List.map_cons, List.map_nil]; rfl) ?_
  with_reducible refine (GSE.out _ HH0.out).mono ?_
  rintro e w5 ⟨rfl, hh⟩
  refine ⟨_, rfl, ?_⟩
  have HH5 := Aside0.mk hh
  clear hh
  refine hK.out _ _ ⟨HK0.out _ HH5.out, HK4.out _ HH5.out⟩ (fun hHeld => ?_)
  clear hK K
  refine norm_ (a' := ?_) ?_ ?_
  rotate_left
  · show Act.put _ (some 12) _ = _
    simp only [Act.put, List.setIfInBounds_toArray, List.set_cons_zero, List.set_cons_succ, i64_w, i32_w]
    rfl
  refine pure_ (i := 5) (N := some 16) (v := ?_) (a' := ?_) #[true, true, true, true, true, true, false, false, false, false, false, false, false] rfl rfl (by kernel_rfl) (fun _ _ _ h => h) (Or.inl ⟨by rfl, ?_⟩) ?_ ?_
  rotate_left
  · intro w'
    go_simp
    with_reducible rfl
  rotate_left
  · simp only [Act.put, List.setIfInBounds_toArray, List.set_cons_zero, List.set_cons_succ, i64_w, i32_w]
    rfl
  refine pure_ (i := 6) (N := some 17) (v := ?_) (a' := ?_) #[true, true, true, true, true, true, true, false, false, false, false, false, false] rfl rfl (by kernel_rfl) (fun _ _ _ h => h) (Or.inl ⟨by rfl, ?_⟩) ?_ ?_
  rotate_left
  · intro w'
    go_simp
    with_reducible rfl
  rotate_left
  · simp only [Act.put, List.setIfInBounds_toArray, List.set_cons_zero, List.set_cons_succ, i64_w, i32_w]
    rfl
  refine pure_ (i := 7) (N := some 18) (v := ?_) (a' := ?_) #[true, true, true, true, true, true, true, true, false, false, false, false, false] rfl rfl (by kernel_rfl) (fun _ _ _ h => h) (Or.inl ⟨by rfl, ?_⟩) ?_ ?_
  rotate_left
  · intro w'
    go_simp
    with_reducible rfl
  rotate_left
  · simp only [Act.put, List.setIfInBounds_toArray, List.set_cons_zero, List.set_cons_succ, i64_w, i32_w]
    rfl
  refine pure_ (i := 9) (N := some 20) (v := ?_) (a' := ?_) #[true, true, true, true, true, true, true, true, false, true, false, false, false] rfl rfl (by kernel_rfl) (fun _ _ _ h => h) (Or.inl ⟨by rfl, ?_⟩) ?_ ?_
  rotate_left
  · intro w'
    go_simp
    with_reducible rfl
  rotate_left
  · simp only [Act.put, List.setIfInBounds_toArray, List.set_cons_zero, List.set_cons_succ, i64_w, i32_w]
    rfl
  refine take_ (i := 10) (N := some 21) (v := ?_) (a' := ?_) #[true, true, true, true, true, true, true, true, false, true, true, false, false] rfl rfl (by kernel_rfl) (fun _ _ _ h => h) (Or.inl ⟨by rfl, ?_⟩) hHeld ?_ ?_
  rotate_left
  · rintro w' ⟨s0, s1⟩
    go_simp
    with_reducible rfl
  rotate_left
  · simp only [Act.put, List.setIfInBounds_toArray, List.set_cons_zero, List.set_cons_succ, i64_w, i32_w]
    rfl
  refine one_ (i := 8) (N := some 19) #[true, true, true, true, true, true, true, true, true, true, true, false, false] rfl rfl (by kernel_rfl) (by decide) (fun K hK => ?_)
  refine goes_ Try.func40 (by kernel_rfl) rfl #[.pointer (some ⟨L.g, 0, none⟩)] (by rfl) rfl rfl (by simp only [List.map_toArray, List.map_cons, List.map_nil]; rfl) ?_
  with_reducible refine (GFA.out _ HH5.out).mono ?_
  rintro e w6 ⟨rfl, hh⟩
  refine ⟨_, rfl, ?_⟩
  have HH6 := Aside0.mk hh
  clear hh
  refine hK.out _ _ ⟨HK0.out _ HH6.out, HK4.out _ HH6.out⟩ (fun hHeld => ?_)
  clear hK K
  refine norm_ (a' := ?_) ?_ ?_
  rotate_left
  · show Act.put _ (some 19) _ = _
    simp only [Act.put, List.setIfInBounds_toArray, List.set_cons_zero, List.set_cons_succ, i64_w, i32_w]
    rfl
  refine pure_ (i := 11) (N := some 22) (v := ?_) (a' := ?_) #[true, true, true, true, true, true, true, true, true, true, true, true, false] rfl rfl (by kernel_rfl) (fun _ _ _ h => h) (Or.inl ⟨by rfl, ?_⟩) ?_ ?_
  rotate_left
  · intro w'
    go_simp
    with_reducible rfl
  rotate_left
  · simp only [Act.put, List.setIfInBounds_toArray, List.set_cons_zero, List.set_cons_succ, i64_w, i32_w]
    rfl
  refine pure_ (i := 12) (N := some 23) (v := ?_) (a' := ?_) #[true, true, true, true, true, true, true, true, true, true, true, true, true] rfl rfl (by kernel_rfl) (fun _ _ _ h => h) (Or.inl ⟨by rfl, ?_⟩) ?_ ?_
  rotate_left
  · intro w'
    go_simp
    with_reducible rfl
  rotate_left
  · simp only [Act.put, List.setIfInBounds_toArray, List.set_cons_zero, List.set_cons_succ, i64_w, i32_w]
    rfl
  refine done_ (by kernel_rfl) ?_
  clear HH0 HH5 k0 k1 k2 k3 k4 k5 k6 GSE GFA
  go_wp2_with fail
  go_loopg [5, 6, 7, 8, 9] (n0 + 2) (fun gg s5 _ _ _ _ wr => ∃ j : Nat, s5 = .int .i64 ((j : Int) - 1) ∧ j ≤ n0 + 2 ∧ n0 + 2 - j ≤ gg ∧ Aside0 (Held W bx O wr))
  case atStart => exact ⟨0, by go_num, by omega, by omega, HH6⟩
  case round =>
    clear HH6
    obtain ⟨j, rfl, hj, hgg, HI⟩ := hrel
    by_cases hlt : j ≤ n0 + 1
    · have hltz : (j : Int) - 1 ≤ (n0 : Int) := by omega
      have hjz : (j : Int) - 1 ≤ 1155 := by omega
      have hjm : -1 ≤ (j : Int) - 1 := by omega
      obtain ⟨i, hi⟩ : ∃ i, i = (j : Int) - 1 := ⟨_, rfl⟩
      have HIJ := Aside0.mk hi
      rw [← hi] at hltz hjz hjm ⊢
      clear hi
      have HR1 := Aside0.mk (fun w h => GRD.out w h i)
      have HR2 := Aside0.mk (fun w h => GRR.out w h i)
      have HO1 := Aside0.mk (fun w h => GOL.out w h i)
      have HO2 := Aside0.mk (fun w h => GRE.out w h i)
      obtain ⟨d, hd⟩ : ∃ d, d = (readS S i).1 := ⟨_, rfl⟩
      obtain ⟨r, hr⟩ : ∃ r, r = (readS S i).2 := ⟨_, rfl⟩
      obtain ⟨q, hq⟩ : ∃ q, q = oldN S i := ⟨_, rfl⟩
      rw [← hd, ← hr] at HR1 HR2
      rw [← hq] at HO1 HO2
      clear hd hr hq
      have e1 : (d.toList == d.toList) = true := bytes_yes rfl
      have e2 : (d.toList != d.toList) = false := by simp
      have e3 : (r != r) = false := by simp
      have e4 : (q != q) = false := by simp
      have hle : decide (i ≤ (n0 : Int)) = true := decide_eq_true hltz
      have k0 := HK0.out _ HI.out
      have k1 := HK1.out _ HI.out
      have k2 := HK2.out _ HI.out
      have k3 := HK3.out _ HI.out
      have k4 := HK4.out _ HI.out
      have k5 := HK5.out _ HI.out
      have k6 := HK6.out _ HI.out
      go_wp2_with fail
      refine (HR1.out _ HI.out).mono ?_
      rintro e w5 ⟨rfl, hh⟩
      have HI5 := Aside0.mk hh
      clear hh HI HR1 k0 k1 k2 k3 k4 k5 k6
      have k0 := HK0.out _ HI5.out
      have k1 := HK1.out _ HI5.out
      have k2 := HK2.out _ HI5.out
      have k3 := HK3.out _ HI5.out
      have k4 := HK4.out _ HI5.out
      have k5 := HK5.out _ HI5.out
      have k6 := HK6.out _ HI5.out
      go_wp2_with fail
      refine (HR2.out _ HI5.out).mono ?_
      rintro e w6 ⟨rfl, hh⟩
      have HI6 := Aside0.mk hh
      clear hh HI5 HR2 k0 k1 k2 k3 k4 k5 k6
      have k0 := HK0.out _ HI6.out
      have k1 := HK1.out _ HI6.out
      have k2 := HK2.out _ HI6.out
      have k3 := HK3.out _ HI6.out
      have k4 := HK4.out _ HI6.out
      have k5 := HK5.out _ HI6.out
      have k6 := HK6.out _ HI6.out
      go_wp2_with fail
      have HI7 := Aside0.mk HI6.out.drew
      refine start_ (n := 17) (S := fun w' => w'.cell? ⟨bx, 0, none⟩ = some (.slice A0 n0 c0) ∧ w'.cell? ⟨bx, 1, none⟩ = some (.slice A1 n1 c1) ∧ w'.cell? ⟨bx, 2, none⟩ = some (.slice A2 n2 c2) ∧ w'.cell? ⟨bx, 3, none⟩ = some (.slice A3 fl.length c3) ∧ w'.cell? ⟨bx, 4, none⟩ = some (.bool fa) ∧ w'.cell? ⟨bx, 5, none⟩ = some (.int .i64 fu) ∧ w'.cell? ⟨bx, 6, none⟩ = some (.slice A6 sv.length c6)) (ds := []) #[false, false, false, false, false, false, false, false, false, false, false, false, false, false, false, false, false] (by kernel_rfl) rfl rfl ⟨k0, k1, k2, k3, k4, k5, k6⟩ (fun hHeld => ?_)
      refine pure_ (i := 0) (N := some 43) (v := ?_) (a' := ?_) #[true, false, false, false, false, false, false, false, false, false, false, false, false, false, false, false, false] rfl rfl (by kernel_rfl) (fun _ _ _ h => h) (Or.inl ⟨by rfl, ?_⟩) ?_ ?_
      rotate_left
      · intro w'
        go_simp
        with_reducible rfl
      rotate_left
      · simp only [Act.put, List.setIfInBounds_toArray, List.set_cons_zero, List.set_cons_succ, i64_w, i32_w]
        rfl
      refine pure_ (i := 1) (N := some 44) (v := ?_) (a' := ?_) #[true, true, false, false, false, false, false, false, false, false, false, false, false, false, false, false, false] rfl rfl (by kernel_rfl) (fun _ _ _ h => h) (Or.inl ⟨by rfl, ?_⟩) ?_ ?_
      rotate_left
      · intro w'
        go_simp
        with_reducible rfl
      rotate_left
      · simp only [Act.put, List.setIfInBounds_toArray, List.set_cons_zero, List.set_cons_succ, i64_w, i32_w]
        rfl
      refine pure_ (i := 2) (N := some 45) (v := ?_) (a' := ?_) #[true, true, true, false, false, false, false, false, false, false, false, false, false, false, false, false, false] rfl rfl (by kernel_rfl) (fun _ _ _ h => h) (Or.inl ⟨by rfl, ?_⟩) ?_ ?_
      rotate_left
      · intro w'
        go_simp
        with_reducible rfl
      rotate_left
      · simp only [Act.put, List.setIfInBounds_toArray, List.set_cons_zero, List.set_cons_succ, i64_w, i32_w]
        rfl
      refine pure_ (i := 3) (N := some 46) (v := ?_) (a' := ?_) #[true, true, true, true, false, false, false, false, false, false, false, false, false, false, false, false, false] rfl rfl (by kernel_rfl) (fun _ _ _ h => h) (Or.inl ⟨by rfl, ?_⟩) ?_ ?_
      rotate_left
      · intro w'
        go_simp
        with_reducible rfl
      rotate_left
      · simp only [Act.put, List.setIfInBounds_toArray, List.set_cons_zero, List.set_cons_succ, i64_w, i32_w]
        rfl
      refine pure_ (i := 4) (N := some 47) (v := ?_) (a' := ?_) #[true, true, true, true, true, false, false, false, false, false, false, false, false, false, false, false, false] rfl rfl (by kernel_rfl) (fun _ _ _ h => h) (Or.inl ⟨by rfl, ?_⟩) ?_ ?_
      rotate_left
      · intro w'
        go_simp
        with_reducible rfl
      rotate_left
      · simp only [Act.put, List.setIfInBounds_toArray, List.set_cons_zero, List.set_cons_succ, i64_w, i32_w]
        rfl
      refine pure_ (i := 5) (N := some 48) (v := ?_) (a' := ?_) #[true, true, true, true, true, true, false, false, false, false, false, false, false, false, false, false, false] rfl rfl (by kernel_rfl) (fun _ _ _ h => h) (Or.inl ⟨by rfl, ?_⟩) ?_ ?_
      rotate_left
      · intro w'
        go_simp
        with_reducible rfl
      rotate_left
      · simp only [Act.put, List.setIfInBounds_toArray, List.set_cons_zero, List.set_cons_succ, i64_w, i32_w]
        rfl
      refine pure_ (i := 6) (N := some 49) (v := ?_) (a' := ?_) #[true, true, true, true, true, true, true, false, false, false, false, false, false, false, false, false, false] rfl rfl (by kernel_rfl) (fun _ _ _ h => h) (Or.inl ⟨by rfl, ?_⟩) ?_ ?_
      rotate_left
      · intro w'
        go_simp
        with_reducible rfl
      rotate_left
      · simp only [Act.put, List.setIfInBounds_toArray, List.set_cons_zero, List.set_cons_succ, i64_w, i32_w]
        rfl
      refine pure_ (i := 7) (N := some 50) (v := ?_) (a' := ?_) #[true, true, true, true, true, true, true, true, false, false, false, false, false, false, false, false, false] rfl rfl (by kernel_rfl) (fun _ _ _ h => h) (Or.inl ⟨by rfl, ?_⟩) ?_ ?_
      rotate_left
      · intro w'
        go_simp
        with_reducible rfl
      rotate_left
      · simp only [Act.put, List.setIfInBounds_toArray, List.set_cons_zero, List.set_cons_succ, i64_w, i32_w]
        rfl
      refine pure_ (i := 8) (N := some 51) (v := ?_) (a' := ?_) #[true, true, true, true, true, true, true, true, true, false, false, false, false, false, false, false, false] rfl rfl (by kernel_rfl) (fun _ _ _ h => h) (Or.inl ⟨by rfl, ?_⟩) ?_ ?_
      rotate_left
      · intro w'
        go_simp
        with_reducible rfl
      rotate_left
      · simp only [Act.put, List.setIfInBounds_toArray, List.set_cons_zero, List.set_cons_succ, i64_w, i32_w]
        rfl
      refine pure_ (i := 9) (N := some 52) (v := ?_) (a' := ?_) #[true, true, true, true, true, true, true, true, true, true, false, false, false, false, false, false, false] rfl rfl (by kernel_rfl) (fun _ _ _ h => h) (Or.inl ⟨by rfl, ?_⟩) ?_ ?_
      rotate_left
      · intro w'
        go_simp
        with_reducible rfl
      rotate_left
      · simp only [Act.put, List.setIfInBounds_toArray, List.set_cons_zero, List.set_cons_succ, i64_w, i32_w]
        rfl
      refine pure_ (i := 10) (N := some 53) (v := ?_) (a' := ?_) #[true, true, true, true, true, true, true, true, true, true, true, false, false, false, false, false, false] rfl rfl (by kernel_rfl) (fun _ _ _ h => h) (Or.inl ⟨by rfl, ?_⟩) ?_ ?_
      rotate_left
      · intro w'
        go_simp
        with_reducible rfl
      rotate_left
      · simp only [Act.put, List.setIfInBounds_toArray, List.set_cons_zero, List.set_cons_succ, i64_w, i32_w]
        rfl
      refine pure_ (i := 13) (N := some 56) (v := ?_) (a' := ?_) #[true, true, true, true, true, true, true, true, true, true, true, false, false, true, false, false, false] rfl rfl (by kernel_rfl) (fun _ _ _ h => h) (Or.inl ⟨by rfl, ?_⟩) ?_ ?_
      rotate_left
      · intro w'
        go_simp
        with_reducible rfl
      rotate_left
      · simp only [Act.put, List.setIfInBounds_toArray, List.set_cons_zero, List.set_cons_succ, i64_w, i32_w]
        rfl
      refine take_ (i := 12) (N := some 55) (v := ?_) (a' := ?_) #[true, true, true, true, true, true, true, true, true, true, true, false, true, true, false, false, false] rfl rfl (by kernel_rfl) (fun _ _ _ h => h) (Or.inl ⟨by rfl, ?_⟩) hHeld ?_ ?_
      rotate_left
      · rintro w' ⟨s0, s1, s2, s3, s4, s5, s6⟩
        go_simp
        with_reducible rfl
      rotate_left
      · simp only [Act.put, List.setIfInBounds_toArray, List.set_cons_zero, List.set_cons_succ, i64_w, i32_w]
        rfl
      refine one_ (i := 11) (N := some 54) #[true, true, true, true, true, true, true, true, true, true, true, true, true, true, false, false, false] rfl rfl (by kernel_rfl) (by decide) (fun K hK => ?_)
      refine goes_ Try.func25 (by kernel_rfl) rfl #[.pointer (some ⟨L.g, 0, none⟩), .int .i64 i] (by rfl) rfl rfl (by simp only [List.map_toArray, List.map_cons, List.map_nil]; rfl) ?_
      with_reducible refine (HO1.out _ HI7.out).mono ?_
      rintro e w8 ⟨rfl, hh⟩
      refine ⟨_, rfl, ?_⟩
      have HI8 := Aside0.mk hh
      clear hh
      refine hK.out _ _ ⟨HK0.out _ HI8.out, HK1.out _ HI8.out, HK2.out _ HI8.out, HK3.out _ HI8.out, HK4.out _ HI8.out, HK5.out _ HI8.out, HK6.out _ HI8.out⟩ (fun hHeld => ?_)
      clear hK K
      refine norm_ (a' := ?_) ?_ ?_
      rotate_left
      · show Act.put _ (some 54) _ = _
        simp only [Act.put, List.setIfInBounds_toArray, List.set_cons_zero, List.set_cons_succ, i64_w, i32_w]
        rfl
      refine one_ (i := 14) (N := some 57) #[true, true, true, true, true, true, true, true, true, true, true, true, true, true, true, false, false] rfl rfl (by kernel_rfl) (by decide) (fun K hK => ?_)
      refine goes_ Try.func42 (by kernel_rfl) rfl #[.agg #[.slice A0 n0 c0, .slice A1 n1 c1, .slice A2 n2 c2, .slice A3 fl.length c3, .bool fa, .int .i64 fu, .slice A6 sv.length c6], .int .i64 i] (by rfl) rfl rfl (by simp only [List.map_toArray, List.map_cons, List.map_nil]; rfl) ?_
      with_reducible refine (HO2.out _ HI8.out).mono ?_
      rintro e w9 ⟨rfl, hh⟩
      refine ⟨_, rfl, ?_⟩
      have HI9 := Aside0.mk hh
      clear hh
      refine hK.out _ _ ⟨HK0.out _ HI9.out, HK1.out _ HI9.out, HK2.out _ HI9.out, HK3.out _ HI9.out, HK4.out _ HI9.out, HK5.out _ HI9.out, HK6.out _ HI9.out⟩ (fun hHeld => ?_)
      clear hK K
      refine norm_ (a' := ?_) ?_ ?_
      rotate_left
      · show Act.put _ (some 57) _ = _
        simp only [Act.put, List.setIfInBounds_toArray, List.set_cons_zero, List.set_cons_succ, i64_w, i32_w]
        rfl
      refine pure_ (i := 15) (N := some 58) (v := ?_) (a' := ?_) #[true, true, true, true, true, true, true, true, true, true, true, true, true, true, true, true, false] rfl rfl (by kernel_rfl) (fun _ _ _ h => h) (Or.inl ⟨by rfl, ?_⟩) ?_ ?_
      rotate_left
      · intro w'
        go_simp
        with_reducible rfl
      rotate_left
      · simp only [Act.put, List.setIfInBounds_toArray, List.set_cons_zero, List.set_cons_succ, i64_w, i32_w]
        rfl
      refine pure_ (i := 16) (N := some 59) (v := ?_) (a' := ?_) #[true, true, true, true, true, true, true, true, true, true, true, true, true, true, true, true, true] rfl rfl (by kernel_rfl) (fun _ _ _ h => h) (Or.inl ⟨by rfl, ?_⟩) ?_ ?_
      rotate_left
      · intro w'
        go_simp
        with_reducible rfl
      rotate_left
      · simp only [Act.put, List.setIfInBounds_toArray, List.set_cons_zero, List.set_cons_succ, i64_w, i32_w]
        rfl
      refine done_ (by kernel_rfl) ?_
      clear HI6 HI7 HI8 HO1 HO2 k0 k1 k2 k3 k4 k5 k6
      go_wp2_with fail
      go_roundg (n0 + 2 - (j + 1))
      case measure => omega
      case rel => exact ⟨j + 1, by have := HIJ.out; rw [this]; go_num, by omega, Nat.le_refl _, HI9⟩
    · obtain rfl : j = n0 + 2 := by omega
      have hd : decide (((n0 + 2 : Nat) : Int) - 1 ≤ (n0 : Int)) = false := decide_eq_false (by omega)
      obtain ⟨i, hi⟩ : ∃ i, i = ((n0 + 2 : Nat) : Int) - 1 := ⟨_, rfl⟩
      rw [← hi] at hd ⊢
      clear hi hlt hj hgg
      have k0 := HK0.out _ HI.out
      go_wp2_with fail
      clear k0
      go_loopg [10] 6 (fun gg s10 wr => ∃ j : Nat, s10 = .int .i64 (j : Int) ∧ j ≤ 6 ∧ 6 - j ≤ gg ∧ Aside0 (Held W bx O wr))
      case atStart => exact ⟨0, by go_num, by omega, by omega, HI⟩
      case round =>
        clear HI
        obtain ⟨j, rfl, hj, hgg, HI⟩ := hrel
        by_cases hlt : j ≤ 5
        · have hltz : (j : Int) ≤ 5 := by omega
          have HP1 := Aside0.mk (fun w h => GPE.out w h j)
          have HP2 := Aside0.mk (fun w h => GRW.out w h j)
          obtain ⟨p, hp⟩ : ∃ p, p = pendN S j := ⟨_, rfl⟩
          rw [← hp] at HP1 HP2
          clear hp
          have e5 : ((p : Int) != (p : Int)) = false := by simp
          have k0 := HK0.out _ HI.out
          have k1 := HK1.out _ HI.out
          have k2 := HK2.out _ HI.out
          have k3 := HK3.out _ HI.out
          have k4 := HK4.out _ HI.out
          have k5 := HK5.out _ HI.out
          have k6 := HK6.out _ HI.out
          go_wp2_with fail
          have HI7 := Aside0.mk HI.out.drew
          refine start_ (n := 7) (S := fun w' => w'.cell? ⟨bx, 0, none⟩ = some (.slice A0 n0 c0) ∧ w'.cell? ⟨bx, 1, none⟩ = some (.slice A1 n1 c1) ∧ w'.cell? ⟨bx, 2, none⟩ = some (.slice A2 n2 c2) ∧ w'.cell? ⟨bx, 3, none⟩ = some (.slice A3 fl.length c3) ∧ w'.cell? ⟨bx, 4, none⟩ = some (.bool fa) ∧ w'.cell? ⟨bx, 5, none⟩ = some (.int .i64 fu) ∧ w'.cell? ⟨bx, 6, none⟩ = some (.slice A6 sv.length c6)) (ds := []) #[false, false, false, false, false, false, false] (by kernel_rfl) rfl rfl ⟨k0, k1, k2, k3, k4, k5, k6⟩ (fun hHeld => ?_)
          refine pure_ (i := 0) (N := some 64) (v := ?_) (a' := ?_) #[true, false, false, false, false, false, false] rfl rfl (by kernel_rfl) (fun _ _ _ h => h) (Or.inl ⟨by rfl, ?_⟩) ?_ ?_
          rotate_left
          · intro w'
            go_simp
            with_reducible rfl
          rotate_left
          · simp only [Act.put, List.setIfInBounds_toArray, List.set_cons_zero, List.set_cons_succ, i64_w, i32_w]
            rfl
          refine pure_ (i := 1) (N := some 65) (v := ?_) (a' := ?_) #[true, true, false, false, false, false, false] rfl rfl (by kernel_rfl) (fun _ _ _ h => h) (Or.inl ⟨by rfl, ?_⟩) ?_ ?_
          rotate_left
          · intro w'
            go_simp
            with_reducible rfl
          rotate_left
          · simp only [Act.put, List.setIfInBounds_toArray, List.set_cons_zero, List.set_cons_succ, i64_w, i32_w]
            rfl
          refine pure_ (i := 4) (N := some 68) (v := ?_) (a' := ?_) #[true, true, false, false, true, false, false] rfl rfl (by kernel_rfl) (fun _ _ _ h => h) (Or.inl ⟨by rfl, ?_⟩) ?_ ?_
          rotate_left
          · intro w'
            go_simp
            with_reducible rfl
          rotate_left
          · simp only [Act.put, List.setIfInBounds_toArray, List.set_cons_zero, List.set_cons_succ, i64_w, i32_w]
            rfl
          refine take_ (i := 3) (N := some 67) (v := ?_) (a' := ?_) #[true, true, false, true, true, false, false] rfl rfl (by kernel_rfl) (fun _ _ _ h => h) (Or.inl ⟨by rfl, ?_⟩) hHeld ?_ ?_
          rotate_left
          · rintro w' ⟨s0, s1, s2, s3, s4, s5, s6⟩
            go_simp
            with_reducible rfl
          rotate_left
          · simp only [Act.put, List.setIfInBounds_toArray, List.set_cons_zero, List.set_cons_succ, i64_w, i32_w]
            rfl
          refine one_ (i := 2) (N := some 66) #[true, true, true, true, true, false, false] rfl rfl (by kernel_rfl) (by decide) (fun K hK => ?_)
          refine goes_ Try.func24 (by kernel_rfl) rfl #[.pointer (some ⟨L.g, 0, none⟩), .int .i64 j] (by rfl) rfl rfl (by simp only [List.map_toArray, List.map_cons, List.map_nil]; rfl) ?_
          with_reducible refine (HP1.out _ HI7.out).mono ?_
          rintro e w8 ⟨rfl, hh⟩
          refine ⟨_, rfl, ?_⟩
          have HI8 := Aside0.mk hh
          clear hh
          refine hK.out _ _ ⟨HK0.out _ HI8.out, HK1.out _ HI8.out, HK2.out _ HI8.out, HK3.out _ HI8.out, HK4.out _ HI8.out, HK5.out _ HI8.out, HK6.out _ HI8.out⟩ (fun hHeld => ?_)
          clear hK K
          refine norm_ (a' := ?_) ?_ ?_
          rotate_left
          · show Act.put _ (some 66) _ = _
            simp only [Act.put, List.setIfInBounds_toArray, List.set_cons_zero, List.set_cons_succ, i64_w, i32_w]
            rfl
          refine one_ (i := 5) (N := some 69) #[true, true, true, true, true, true, false] rfl rfl (by kernel_rfl) (by decide) (fun K hK => ?_)
          refine goes_ Try.func43 (by kernel_rfl) rfl #[.agg #[.slice A0 n0 c0, .slice A1 n1 c1, .slice A2 n2 c2, .slice A3 fl.length c3, .bool fa, .int .i64 fu, .slice A6 sv.length c6], .int .i64 j] (by rfl) rfl rfl (by simp only [List.map_toArray, List.map_cons, List.map_nil]; rfl) ?_
          with_reducible refine (HP2.out _ HI8.out).mono ?_
          rintro e w9 ⟨rfl, hh⟩
          refine ⟨_, rfl, ?_⟩
          have HI9 := Aside0.mk hh
          clear hh
          refine hK.out _ _ ⟨HK0.out _ HI9.out, HK1.out _ HI9.out, HK2.out _ HI9.out, HK3.out _ HI9.out, HK4.out _ HI9.out, HK5.out _ HI9.out, HK6.out _ HI9.out⟩ (fun hHeld => ?_)
          clear hK K
          refine norm_ (a' := ?_) ?_ ?_
          rotate_left
          · show Act.put _ (some 69) _ = _
            simp only [Act.put, List.setIfInBounds_toArray, List.set_cons_zero, List.set_cons_succ, i64_w, i32_w]
            rfl
          refine pure_ (i := 6) (N := some 70) (v := ?_) (a' := ?_) #[true, true, true, true, true, true, true] rfl rfl (by kernel_rfl) (fun _ _ _ h => h) (Or.inl ⟨by rfl, ?_⟩) ?_ ?_
          rotate_left
          · intro w'
            go_simp
            with_reducible rfl
          rotate_left
          · simp only [Act.put, List.setIfInBounds_toArray, List.set_cons_zero, List.set_cons_succ, i64_w, i32_w]
            rfl
          refine done_ (by kernel_rfl) ?_
          clear HI HI7 HI8 HP1 HP2 k0 k1 k2 k3 k4 k5 k6
          go_wp2_with fail
          go_roundg (6 - (j + 1))
          case measure => omega
          case rel => exact ⟨j + 1, by go_num, by omega, Nat.le_refl _, HI9⟩
        · obtain rfl : j = 6 := by omega
          go_wp2_with fail
          go_ret
          exact ⟨rfl, HI.out.1⟩
end
end Go.Proofs.Ytflajmgichdhhaa.PG

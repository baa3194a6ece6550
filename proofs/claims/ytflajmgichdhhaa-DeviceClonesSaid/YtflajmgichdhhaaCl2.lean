/- The walks and plain facts behind the row of DeviceClones: part 3 of 4. -/
import Derived.Test.YtflajmgichdhhaaCl1
namespace Go.Proofs.Ytflajmgichdhhaa.PG
open Go.RowKit Go.Proofs.YtflajmgichdhhaaW.PrintWords Go.Proofs.YtflajmgichdhhaaW.PrintLast Go.Proofs.YtflajmgichdhhaaW.PrintMore
set_option linter.unusedVariables false
set_option linter.unusedSimpArgs false
section
variable {W : World} {ok : Nat → Prop} {v : Value} {S : DevS}
set_option maxRecDepth 100000 in
theorem fenced_ref (hR : RefIs W ok v S) (sys ep : Int) (h1 : 1 ≤ sys) (h4 : sys ≤ 4) (he0 : 0 ≤ ep) (he1 : ep ≤ 1099511627776) :
  Calls Try.prog 55 #[v, .agg #[.int .i64 sys, .int .i64 ep]] W fun e W' => e = .returned (.bool (fencedS S sys ep)) ∧ Below W.heap.size W W' := by
 obtain ⟨v0, v1, v2, v3, v6, fl, fu, sv, hA⟩ := id hR
 obtain rfl := hA.hv
 obtain ⟨A0, c0, e0, hl0, hF0⟩ := hA.h0
 obtain ⟨A1, c1, e1, hl1, hF1⟩ := hA.h1
 obtain ⟨A2, c2, e2, hl2, hF2⟩ := hA.h2
 obtain ⟨A3, c3, e3, hl3, hF3⟩ := hA.h3
 obtain ⟨A6, c6, e6, hl6, hF6⟩ := hA.h6
 subst e0 e1 e2 e3 e6
 have HR := Aside0.mk hR
 have HA := Aside0.mk hA
 have HF0 := Aside0.mk hF0
 have HF1 := Aside0.mk hF1
 have HF2 := Aside0.mk hF2
 have HF3 := Aside0.mk hF3
 obtain ⟨n0, hn0⟩ : ∃ n0, n0 = S.stable.length := ⟨_, rfl⟩
 obtain ⟨n1, hn1⟩ : ∃ n1, n1 = S.old.length := ⟨_, rfl⟩
 obtain ⟨n2, hn2⟩ : ∃ n2, n2 = S.pend.length := ⟨_, rfl⟩
 obtain ⟨n3, hn3⟩ : ∃ n3, n3 = fl.length := ⟨_, rfl⟩
 obtain ⟨n6, hn6⟩ : ∃ n6, n6 = sv.length := ⟨_, rfl⟩
 obtain ⟨fa, hfa⟩ : ∃ fa, fa = S.failed := ⟨_, rfl⟩
 have EQ := Aside0.mk (show n0 = S.stable.length ∧ n1 = S.old.length ∧ n2 = S.pend.length ∧ n3 = fl.length ∧ n6 = sv.length ∧ fa = S.failed from ⟨hn0, hn1, hn2, hn3, hn6, hfa⟩)
 rw [← hn0, ← hn1, ← hn2, ← hn3, ← hn6, ← hfa]
 rw [← hn0, ← hn1, ← hn2, ← hn3, ← hn6, ← hfa] at HR
 clear hR hA hF0 hF1 hF2 hF3 hF6 hl0 hl1 hl2 hl3 hl6 hn0 hn1 hn2 hn3 hn6 hfa
 have hl5 : n3 = 5 := by rw [EQ.out.2.2.2.1]; exact HA.out.fl5
 obtain ⟨adf, ef, y0⟩ := Kd.at_int (Kd.F_now HF3.out) sys (by omega) (by have := EQ.out.2.2.2.1; omega)
 have hyb := World.block_lt_of_cell? W _ y0
 have hyb0 : adf.block < W.heap.size := by
  have e : (adf.add sys.toNat).block = adf.block := by unfold Addr.add; split <;> rfl
  rw [e] at hyb; exact hyb
 have hrd : rd fl sys = fl.getD sys.toNat 0 := by unfold rd; rfl
 rw [hrd] at y0
 obtain ⟨q0, q1, q2⟩ := HA.out.fok sys.toNat (by omega) (by omega)
 have hq := q2 ep he0 he1
 rw [show ((sys.toNat : Nat) : Int) = sys by omega] at hq
 obtain ⟨x, hx⟩ : ∃ x, x = fl.getD sys.toNat 0 := ⟨_, rfl⟩
 rw [← hx] at y0 hq
 have hv : fencedS S sys ep = decide (ep < x) := by
  unfold fencedS
  cases hx : S.fences sys with
  | none =>
   rw [hx] at hq
   have : ¬ ep < x := fun z => by obtain ⟨f, a, _⟩ := hq.1 z; cases a
   simp [this]
  | some f =>
   rw [hx] at hq
   by_cases h : ep ≤ f
   ·have := hq.2 ⟨f, rfl, h⟩
    simp [h, this]
   ·have : ¬ ep < x := fun z => by obtain ⟨f', a, b⟩ := hq.1 z; cases a; exact h b
    simp [h, this]
 rw [hv]
 subst ef
 obtain ⟨s, rfl⟩ := Int.eq_ofNat_of_zero_le (show 0 ≤ sys by omega)
 rw [Int.toNat_natCast] at y0 hyb
 have hs5 : (s : Int) < (n3 : Int) := by omega
 have hs5n : s < n3 := by omega
 clear hrd q0 q1 q2 hq hv hx hl5
 go_enter Try.func55, Try.ntmps55
 go_wp2_with fail
 go_quiet (fail)
 go_wp2_with fail
 go_ret
 exact ⟨rfl, below_drewN (below_alloc (below_alloc (Below.refl _ _) _) _) _⟩
theorem change_blown (n : Nat) (d : ByteArray) (S : DevS) : changeS n d (blown S) = blown (changeS n d S) := by
 by_cases h : S.stable.getD n ⟨#[]⟩ = d
 ·have h' : (blown S).stable.getD n ⟨#[]⟩ = d := h
  unfold changeS
  rw [if_pos h', if_pos h]
 ·have h' : ¬ (blown S).stable.getD n ⟨#[]⟩ = d := h
  unfold changeS
  rw [if_neg h', if_neg h]
  rfl
theorem endF_blown (p : S99 → Bool) (l : List Int) : ∀ (ws : List S99) (k : Nat) (S : DevS), endF p l ws (k, blown S) = ((endF p l ws (k, S)).1, blown (endF p l ws (k, S)).2)
 | [], _, _ => rfl
 | w :: ws, k, S => by
  show endF p l ws (endStep p l (k, blown S) w) = ((endF p l ws (endStep p l (k, S) w)).1, blown (endF p l ws (endStep p l (k, S) w)).2)
  have h : endStep p l (k, blown S) w = ((endStep p l (k, S) w).1, blown (endStep p l (k, S) w).2) := by
   unfold endStep
   split
   ·show (k + 1, endOne l k w (blown S)) = (k + 1, blown (endOne l k w S))
    unfold endOne
    rw [change_blown]
    rfl
   ·rfl
  rw [h]
  exact endF_blown p l ws _ _
theorem finish_blown (p : S99 → Bool) (l : List Int) (S : DevS) : finishS p l (blown S) = blown (finishS p l S) := by
 unfold finishS
 rw [endF_blown]
 rfl
def useS (S : DevS) : Bool × DevS := if S.fset = false then (false, S) else if 0 < S.left then (false, { S with left := S.left - 1 }) else (true, finishS isAny S.surv (blown S))
theorem admit_use (S : DevS) (sys ep : Int) (h1 : S.failed = false) (h2 : fencedS S sys ep = false) : admitS S sys ep = (if (useS S).1 = true then 10 else 0, (useS S).2) := by
 unfold admitS useS
 rw [if_neg (by rw [h1]; simp), if_neg (by rw [h2]; simp)]
 split
 ·rfl
 ·split <;> rfl
def UsePost (ok : Nat → Prop) (S : DevS) (W : World) (e : Ending) (W' : World) : Prop := ∃ v, e = .returned (.tuple #[v, .bool (useS S).1]) ∧ RefIs W' (fun k => ok k ∨ W.heap.size ≤ k) v (useS S).2 ∧ Below W.heap.size W W'
attribute [local go_sem] max2_int min2_int max_two min_two
set_option maxRecDepth 100000 in
set_option maxHeartbeats 4000000 in
theorem use_ref {k : Nat} (hR : RefIs W ok v S) (hG : Good k S) (hk : k ≤ 1000000) : Calls Try.prog 56 #[v] W fun e W' => UsePost ok S W e W' := by
 have HG := Aside0.mk hG
 have hl0 := hG.fine.l0
 clear hG
 obtain ⟨v0, v1, v2, v3, v6, fl, fu, sv, hA⟩ := id hR
 obtain rfl := hA.hv
 obtain ⟨A0, c0, e0, hl0, hF0⟩ := hA.h0
 obtain ⟨A1, c1, e1, hl1, hF1⟩ := hA.h1
 obtain ⟨A2, c2, e2, hl2, hF2⟩ := hA.h2
 obtain ⟨A3, c3, e3, hl3, hF3⟩ := hA.h3
 obtain ⟨A6, c6, e6, hl6, hF6⟩ := hA.h6
 subst e0 e1 e2 e3 e6
 have HR := Aside0.mk hR
 have HA := Aside0.mk hA
 have HF0 := Aside0.mk hF0
 have HF1 := Aside0.mk hF1
 have HF2 := Aside0.mk hF2
 have HF3 := Aside0.mk hF3
 obtain ⟨n0, hn0⟩ : ∃ n0, n0 = S.stable.length := ⟨_, rfl⟩
 obtain ⟨n1, hn1⟩ : ∃ n1, n1 = S.old.length := ⟨_, rfl⟩
 obtain ⟨n2, hn2⟩ : ∃ n2, n2 = S.pend.length := ⟨_, rfl⟩
 obtain ⟨n3, hn3⟩ : ∃ n3, n3 = fl.length := ⟨_, rfl⟩
 obtain ⟨n6, hn6⟩ : ∃ n6, n6 = sv.length := ⟨_, rfl⟩
 obtain ⟨fa, hfa⟩ : ∃ fa, fa = S.failed := ⟨_, rfl⟩
 have EQ := Aside0.mk (show n0 = S.stable.length ∧ n1 = S.old.length ∧ n2 = S.pend.length ∧ n3 = fl.length ∧ n6 = sv.length ∧ fa = S.failed from ⟨hn0, hn1, hn2, hn3, hn6, hfa⟩)
 rw [← hn0, ← hn1, ← hn2, ← hn3, ← hn6, ← hfa]
 rw [← hn0, ← hn1, ← hn2, ← hn3, ← hn6, ← hfa] at HR
 have hF6k := hF6
 have hl6k := hl6
 clear hR hA hF0 hF1 hF2 hF3 hF6 hl0 hl1 hl2 hl3 hl6 hn0 hn1 hn2 hn3 hn6 hfa
 cases hfs : S.fset with
 | false =>
  have hu : useS S = (false, S) := by unfold useS; rw [if_pos hfs]
  have hm1 := HA.out.uok.1 hfs
  unfold UsePost
  rw [hu]
  clear hu hfs
  subst hm1
  go_enter Try.func56, Try.ntmps56
  go_wp2_with fail
  have hx2 : ((W.alloc (.cells #[.slice A0 n0 c0, .slice A1 n1 c1, .slice A2 n2 c2, .slice A3 n3 c3, .bool fa, .int .i64 (-1), .slice A6 n6 c6] 31)).alloc (.cells #[.slice A0 n0 c0, .slice A1 n1 c1, .slice A2 n2 c2, .slice A3 n3 c3, .bool fa, .int .i64 (-1), .slice A6 n6 c6] 31)).heap[W.heap.size + 1]? = some (.cells #[.slice A0 n0 c0, .slice A1 n1 c1, .slice A2 n2 c2, .slice A3 n3 c3, .bool fa, .int .i64 (-1), .slice A6 n6 c6] 31 (0, 0)) := by
   rw [show W.heap.size + 1 = (W.alloc (.cells #[.slice A0 n0 c0, .slice A1 n1 c1, .slice A2 n2 c2, .slice A3 n3 c3, .bool fa, .int .i64 (-1), .slice A6 n6 c6] 31)).heap.size by simp]; exact blk_new _ _
  have hb2 : Below W.heap.size W ((W.alloc (.cells #[.slice A0 n0 c0, .slice A1 n1 c1, .slice A2 n2 c2, .slice A3 n3 c3, .bool fa, .int .i64 (-1), .slice A6 n6 c6] 31)).alloc (.cells #[.slice A0 n0 c0, .slice A1 n1 c1, .slice A2 n2 c2, .slice A3 n3 c3, .bool fa, .int .i64 (-1), .slice A6 n6 c6] 31)) := below_alloc (below_alloc (Below.refl _ _) _) _
  refine bodyPost_ret (results_ct rfl _ _ (W.heap.size + 1) 31 #[.slice A0 n0 c0, .slice A1 n1 c1, .slice A2 n2 c2, .slice A3 n3 c3, .bool fa, .int .i64 (-1), .slice A6 n6 c6] (0, 0) _ rfl hx2 Try.underlying31 rfl (by kernel_rfl)) rfl ?_
  refine ⟨_, rfl, ?_, hb2⟩
  exact (HR.out.below hb2).mono (fun k hk _ => Or.inl hk)
 | true =>
  obtain ⟨hx, hsv⟩ := HA.out.uok.2 hfs
  by_cases hlf : 0 < S.left
  ·have hu : useS S = (false, { S with left := S.left - 1 }) := by unfold useS; rw [if_neg (by rw [hfs]; simp), if_pos hlf]
   unfold UsePost
   rw [hu]
   have HFS := Aside0.mk hfs
   have HXX := Aside0.mk hx
   have HSV := Aside0.mk hsv
   have n1' : (fu != 0) = true := bne_iff_ne.2 (by omega)
   have n2' : ¬ fu - 1 < -1 := by omega
   have n3' : 0 < fu := by omega
   have n4' : fu ≤ 9223372036854775807 := by omega
   clear hu hfs hx hsv hlf hl0
   go_enter Try.func56, Try.ntmps56
   go_wp2_with fail
   have hx2 : ((W.alloc (.cells #[.slice A0 n0 c0, .slice A1 n1 c1, .slice A2 n2 c2, .slice A3 n3 c3, .bool fa, .int .i64 (fu - 1), .slice A6 n6 c6] 31)).alloc (.cells #[.slice A0 n0 c0, .slice A1 n1 c1, .slice A2 n2 c2, .slice A3 n3 c3, .bool fa, .int .i64 (fu - 1), .slice A6 n6 c6] 31)).heap[W.heap.size + 1]? = some (.cells #[.slice A0 n0 c0, .slice A1 n1 c1, .slice A2 n2 c2, .slice A3 n3 c3, .bool fa, .int .i64 (fu - 1), .slice A6 n6 c6] 31 (0, 0)) := by
    rw [show W.heap.size + 1 = (W.alloc (.cells #[.slice A0 n0 c0, .slice A1 n1 c1, .slice A2 n2 c2, .slice A3 n3 c3, .bool fa, .int .i64 (fu - 1), .slice A6 n6 c6] 31)).heap.size by simp]; exact blk_new _ _
   have hb2 : Below W.heap.size W ((W.alloc (.cells #[.slice A0 n0 c0, .slice A1 n1 c1, .slice A2 n2 c2, .slice A3 n3 c3, .bool fa, .int .i64 (fu - 1), .slice A6 n6 c6] 31)).alloc (.cells #[.slice A0 n0 c0, .slice A1 n1 c1, .slice A2 n2 c2, .slice A3 n3 c3, .bool fa, .int .i64 (fu - 1), .slice A6 n6 c6] 31)) := below_alloc (below_alloc (Below.refl _ _) _) _
   refine bodyPost_ret (results_ct rfl _ _ (W.heap.size + 1) 31 #[.slice A0 n0 c0, .slice A1 n1 c1, .slice A2 n2 c2, .slice A3 n3 c3, .bool fa, .int .i64 (fu - 1), .slice A6 n6 c6] (0, 0) _ rfl hx2 Try.underlying31 rfl (by kernel_rfl)) rfl ?_
   refine ⟨_, rfl, ?_, hb2⟩
   obtain ⟨rfl, rfl, rfl, rfl, rfl, rfl⟩ := EQ.out
   exact HA.out.re hb2 S.failed (fu - 1) { S with left := S.left - 1 } rfl rfl rfl rfl HA.out.fok ⟨(fun z => by have h1 : S.fset = false := z; rw [HFS.out] at h1; cases h1), fun _ => ⟨by have h1 := HXX.out; show fu - 1 = S.left - 1; omega, HSV.out⟩⟩
  ·have hu : useS S = (true, blown (finishS isAny S.surv S)) := by unfold useS; rw [if_neg (by rw [hfs]; simp), if_neg hlf, finish_blown]
   unfold UsePost
   rw [hu]
   have hz : fu = 0 := by omega
   subst hz
   have HSV := Aside0.mk hsv
   have HF6 := Aside0.mk hF6k
   have HL6 := Aside0.mk hl6k
   clear hu hfs hx hlf hl0
   go_enter Try.func56, Try.ntmps56
   go_wp2_with fail
   obtain ⟨w1, hw1⟩ : ∃ w1, w1 = (W.alloc (.cells #[.slice A0 n0 c0, .slice A1 n1 c1, .slice A2 n2 c2, .slice A3 n3 c3, .bool fa, .int .i64 0, .slice A6 n6 c6] 31)).alloc (.cells #[.slice none 0 0, .slice none 0 0, .slice none 0 0, .slice none 0 0, .bool false, .int .i64 0, .slice none 0 0] 31) := ⟨_, rfl⟩
   have hb1 : Below W.heap.size W w1 := by rw [hw1]; exact below_alloc (below_alloc (Below.refl _ _) _) _
   have hs1 : w1.heap.size = W.heap.size + 1 + 1 := by rw [hw1]; simp
   have f0 : w1.heap[W.heap.size]? = some (.cells #[.slice A0 n0 c0, .slice A1 n1 c1, .slice A2 n2 c2, .slice A3 n3 c3, .bool fa, .int .i64 0, .slice A6 n6 c6] 31 (0, 0)) := by rw [hw1]; exact blk_below (blk_new _ _) (below_alloc (Below.refl _ _) _)
   have f1 : w1.heap[W.heap.size + 1]? = some (.cells #[.slice none 0 0, .slice none 0 0, .slice none 0 0, .slice none 0 0, .bool false, .int .i64 0, .slice none 0 0] 31 (0, 0)) := by rw [hw1, show W.heap.size + 1 = (W.alloc (.cells #[.slice A0 n0 c0, .slice A1 n1 c1, .slice A2 n2 c2, .slice A3 n3 c3, .bool fa, .int .i64 0, .slice A6 n6 c6] 31)).heap.size by simp]; exact blk_new _ _
   obtain ⟨bx, hbx⟩ : ∃ bx, bx = W.heap.size := ⟨_, rfl⟩
   obtain ⟨rb, hrb⟩ : ∃ rb, rb = W.heap.size + 1 := ⟨_, rfl⟩
   rw [← hw1, ← hrb]
   rw [show (Value.pointer (some ⟨W.heap.size, 0, none⟩)) = .pointer (some ⟨bx, 0, none⟩) by rw [hbx]]
   rw [← hrb] at f1
   rw [← hbx] at f0
   have LB := Aside0.mk (show W.heap.size ≤ bx ∧ W.heap.size ≤ rb ∧ bx ≠ rb ∧ bx < w1.heap.size ∧ rb < w1.heap.size from ⟨by omega, by omega, by omega, by omega, by omega⟩)
   have F0 := Aside0.mk f0
   have F1 := Aside0.mk f1
   have HB1 := Aside0.mk hb1
   have HS1 := Aside0.mk hs1
   clear hw1 hb1 hs1 f0 f1 hbx hrb
   have hend := end_ref (W := w1) (ok := fun k => ok k ∧ k < W.heap.size) ((HR.out.mono (ok' := fun k => ok k ∧ k < W.heap.size) (fun k hk hlt => ⟨hk, hlt⟩)).below HB1.out) HG.out.fine hk isAny 0 (fun w => by simp [isAny]) A6 c6 sv sv (Kd.C_below (Kd.F_now HF6.out) HB1.out) HL6.out (by rw [HSV.out]; exact HG.out.sl) false (fun z => by cases z) (fun k _ => rfl)
   rw [← EQ.out.2.2.2.2.1] at hend
   have HEND := Aside0.mk hend
   clear hend
   refine HEND.out.mono ?_
   rintro e w2 ⟨v', rfl, hR2, hb2⟩
   obtain ⟨E0, E1, E2, E3, E6, d0, d1, d2, d3, d6, gl, gu, gs, hRC⟩ := hR2.open_
   obtain rfl := hRC.hv
   have g0 := blk_below F0.out hb2
   have g1 := blk_below F1.out hb2
   obtain ⟨S1, hS1⟩ : ∃ S1, S1 = finishS isAny sv S := ⟨_, rfl⟩
   rw [← hS1] at hR2
   rw [← hS1]
   obtain ⟨m0, hm0⟩ : ∃ m, m = S1.stable.length := ⟨_, rfl⟩
   obtain ⟨m1, hm1⟩ : ∃ m, m = S1.old.length := ⟨_, rfl⟩
   obtain ⟨m2, hm2⟩ : ∃ m, m = S1.pend.length := ⟨_, rfl⟩
   obtain ⟨m3, hm3⟩ : ∃ m, m = gl.length := ⟨_, rfl⟩
   obtain ⟨m6, hm6⟩ : ∃ m, m = gs.length := ⟨_, rfl⟩
   obtain ⟨ma, hma⟩ : ∃ m, m = S1.failed := ⟨_, rfl⟩
   rw [← hm0, ← hm1, ← hm2, ← hm3, ← hm6, ← hma]
   have EM := Aside0.mk (show m0 = S1.stable.length ∧ m1 = S1.old.length ∧ m2 = S1.pend.length ∧ m3 = gl.length ∧ m6 = gs.length ∧ ma = S1.failed from ⟨hm0, hm1, hm2, hm3, hm6, hma⟩)
   obtain ⟨k0, k1, k2, k3, k4, k5, k6⟩ := cells7 g0
   obtain ⟨z0, z1, z2, z3, z4, z5, z6⟩ := froz7 g0
   obtain ⟨r0, r1, r2, r3, r4, r5, r6⟩ := cells7 g1
   obtain ⟨s0, s1, s2, s3, s4, s5, s6⟩ := froz7 g1
   have ne1 : bx ≠ rb := LB.out.2.2.1
   have ne2 : rb ≠ bx := fun e => ne1 e.symm
   have G0 := Aside0.mk g0
   have G1 := Aside0.mk g1
   have HR2 := Aside0.mk hR2
   have HB2 := Aside0.mk hb2
   have HS1' := Aside0.mk hS1
   clear HEND hRC hm0 hm1 hm2 hm3 hm6 hma g0 g1 hR2 hb2 hS1
   go_upto_region 5 with (fail)
   obtain ⟨w3, hw3⟩ : ∃ w3, w3 = set7 w2 bx (.slice E0 m0 d0) (.slice E1 m1 d1) (.slice E2 m2 d2) (.slice E3 m3 d3) (.bool ma) (.int .i64 gu) (.slice E6 m6 d6) := ⟨_, rfl⟩
   have hf3 : ∀ k, k ≠ bx → w3.heap[k]? = w2.heap[k]? := fun k hk => by rw [hw3]; exact set7_far w2 bx (.slice E0 m0 d0) (.slice E1 m1 d1) (.slice E2 m2 d2) (.slice E3 m3 d3) (.bool ma) (.int .i64 gu) (.slice E6 m6 d6) k hk
   have g0 : w3.heap[bx]? = some (.cells #[.slice E0 m0 d0, .slice E1 m1 d1, .slice E2 m2 d2, .slice E3 m3 d3, .bool ma, .int .i64 gu, .slice E6 m6 d6] 31 (0, 0)) := by rw [hw3]; exact set7_blk G0.out (.slice E0 m0 d0) (.slice E1 m1 d1) (.slice E2 m2 d2) (.slice E3 m3 d3) (.bool ma) (.int .i64 gu) (.slice E6 m6 d6)
   have g1 := (hf3 rb ne2).trans G1.out
   have hb3 : Below W.heap.size W w3 := by rw [hw3]; exact set7_below (HB1.out.trans (HB2.out.mono HB1.out.size)) LB.out.1 (.slice E0 m0 d0) (.slice E1 m1 d1) (.slice E2 m2 d2) (.slice E3 m3 d3) (.bool ma) (.int .i64 gu) (.slice E6 m6 d6)
   have HF3' := Aside0.mk hf3
   unfold set7 at hw3
   rw [← hw3]
   clear hw3 hf3 k0 k1 k2 k3 k4 k5 k6 z0 z1 z2 z3 z4 z5 z6 r0 r1 r2 r3 r4 r5 r6 s0 s1 s2 s3 s4 s5 s6 G0 G1
   obtain ⟨k0, k1, k2, k3, k4, k5, k6⟩ := cells7 g0
   obtain ⟨z0, z1, z2, z3, z4, z5, z6⟩ := froz7 g0
   obtain ⟨r0, r1, r2, r3, r4, r5, r6⟩ := cells7 g1
   obtain ⟨s0, s1, s2, s3, s4, s5, s6⟩ := froz7 g1
   have G0 := Aside0.mk g0
   have G1 := Aside0.mk g1
   have HB3 := Aside0.mk hb3
   clear g0 g1 hb3
   go_wp2_with fail
   have hB1 : ((w3.setCell ⟨bx, 4, none⟩ (.bool true)).setCell ⟨bx, 5, none⟩ (.int .i64 (-1))).heap[rb]? = some (.cells #[.slice none 0 0, .slice none 0 0, .slice none 0 0, .slice none 0 0, .bool false, .int .i64 0, .slice none 0 0] 31 (0, 0)) := (Below.heap_setCell _ _ _ _ ne2).trans ((Below.heap_setCell _ _ _ _ ne2).trans G1.out)
   have hbC := set7_below ((HB3.out.setCell (p := ⟨bx, 4, none⟩) LB.out.1 (.bool true)).setCell (p := ⟨bx, 5, none⟩) LB.out.1 (.int .i64 (-1))) LB.out.2.1 (.slice E0 m0 d0) (.slice E1 m1 d1) (.slice E2 m2 d2) (.slice E3 m3 d3) (.bool true) (.int .i64 (-1)) (.slice E6 m6 d6)
   refine bodyPost_ret (results_ct rfl _ _ rb 31 #[.slice E0 m0 d0, .slice E1 m1 d1, .slice E2 m2 d2, .slice E3 m3 d3, .bool true, .int .i64 (-1), .slice E6 m6 d6] (0, 0) _ rfl (set7_blk hB1 (.slice E0 m0 d0) (.slice E1 m1 d1) (.slice E2 m2 d2) (.slice E3 m3 d3) (.bool true) (.int .i64 (-1)) (.slice E6 m6 d6)) Try.underlying31 rfl (by kernel_rfl)) rfl ?_
   refine ⟨_, rfl, ?_, hbC⟩
   have hf : ∀ k, k ≠ bx → k ≠ rb → (set7 ((w3.setCell ⟨bx, 4, none⟩ (.bool true)).setCell ⟨bx, 5, none⟩ (.int .i64 (-1))) rb (.slice E0 m0 d0) (.slice E1 m1 d1) (.slice E2 m2 d2) (.slice E3 m3 d3) (.bool true) (.int .i64 (-1)) (.slice E6 m6 d6)).heap[k]? = w2.heap[k]? := fun k h1 h2 => (set7_far _ rb (.slice E0 m0 d0) (.slice E1 m1 d1) (.slice E2 m2 d2) (.slice E3 m3 d3) (.bool true) (.int .i64 (-1)) (.slice E6 m6 d6) k h2).trans ((Below.heap_setCell _ _ _ _ h1).trans ((Below.heap_setCell _ _ _ _ h1).trans (HF3'.out k h1)))
   obtain ⟨gl', gu', gs', x4, x5, hA2⟩ := HR2.out.agg
   obtain ⟨t0, t1, t2, t3, t4, t5⟩ := EM.out
   rw [← t0, ← t1, ← t2, ← t3, ← t4, ← t5] at hA2
   have hok : ∀ k, ((ok k ∧ k < W.heap.size) ∨ w1.heap.size ≤ k) → k ≠ bx ∧ k ≠ rb ∧ (ok k ∨ W.heap.size ≤ k) := fun k hk => by
    obtain ⟨l1, l2, l3, l4, l5⟩ := LB.out
    have l6 := HB1.out.size
    rcases hk with hk | hk
    ·exact ⟨by omega, by omega, Or.inl hk.1⟩
    ·exact ⟨by omega, by omega, Or.inr (by omega)⟩
   have mv : ∀ {α : Type} {d : Kd α} {e : Nat} {u : Value} {ys : List α}, Kd.V d e w2 0 (fun k => (ok k ∧ k < W.heap.size) ∨ w1.heap.size ≤ k) u ys → Kd.V d e (set7 ((w3.setCell ⟨bx, 4, none⟩ (.bool true)).setCell ⟨bx, 5, none⟩ (.int .i64 (-1))) rb (.slice E0 m0 d0) (.slice E1 m1 d1) (.slice E2 m2 d2) (.slice E3 m3 d3) (.bool true) (.int .i64 (-1)) (.slice E6 m6 d6)) 0 (fun k => ok k ∨ W.heap.size ≤ k) u ys := fun hu =>
    Kd.V_mono (Kd.V_step hu (fun k hk _ => hf k (hok k hk).1 (hok k hk).2.1)) (fun k hk => (hok k hk).2.2)
   rw [← HSV.out, ← HS1'.out]
   exact ⟨_, _, _, _, _, gl', -1, gs', { hv := rfl, h0 := mv hA2.h0, h1 := mv hA2.h1, h2 := mv hA2.h2, h3 := mv hA2.h3, h6 := mv hA2.h6, fl5 := hA2.fl5, fok := hA2.fok, uok := ⟨(fun _ => rfl), (fun z => by cases z)⟩ }⟩
end
end Go.Proofs.Ytflajmgichdhhaa.PG
namespace Go.Proofs.Ytflajmgichdhhaa.PG
open Go.RowKit Go.Proofs.YtflajmgichdhhaaW.PrintWords Go.Proofs.YtflajmgichdhhaaW.PrintLast Go.Proofs.YtflajmgichdhhaaW.PrintMore
set_option linter.unusedVariables false
set_option linter.unusedSimpArgs false
def RPost2 (ok : Nat → Prop) (r : Int) (S' : DevS) (W : World) (e : Ending) (W' : World) : Prop := ∃ v, e = .returned (.tuple #[v, .int .i64 r]) ∧ RefIs W' (fun k => ok k ∨ W.heap.size ≤ k) v S' ∧ Below W.heap.size W W'
theorem writer_f (sys ep : Int) : dasdref03_writer.f sys ep = some (plainB sys ep) := by
 unfold dasdref03_writer.f plainB
 by_cases h1 : sys ≥ 1
 ·rw [if_pos h1]
  by_cases h2 : sys ≤ 4
  ·rw [if_pos h2]
   by_cases h3 : ep ≥ 0
   ·rw [if_pos h3]
    congr 1
    by_cases h4 : ep ≤ 1099511627776
    ·rw [decide_eq_true h4, decide_eq_true ⟨h1, h2, h3, h4⟩]
    ·rw [decide_eq_false h4, decide_eq_false (fun z => h4 z.2.2.2)]
   ·rw [if_neg h3, decide_eq_false (fun z => h3 z.2.2.1)]
  ·rw [if_neg h2, decide_eq_false (fun z => h2 z.2.1)]
 ·rw [if_neg h1, decide_eq_false (fun z => h1 z.1)]
section
variable {W : World} {ok : Nat → Prop} {v : Value} {S : DevS}
set_option maxRecDepth 100000 in
set_option maxHeartbeats 4000000 in
theorem dosync_ref {k : Nat} (hR : RefIs W ok v S) (hG : Good k S) (hk : k ≤ 1000000) (sys ep : Int) : Calls Try.prog 29 #[v, .agg #[.int .i64 sys, .int .i64 ep]] W fun e W' => RPost2 ok (syncS S sys ep).1 (syncS S sys ep).2 W e W' := by
 have HG := Aside0.mk hG
 clear hG
 obtain ⟨v0, v1, v2, v3, v6, fl, fu, sv, hA⟩ := id hR
 obtain rfl := hA.hv
 obtain ⟨A0, c0, e0, hl0, hF0⟩ := hA.h0
 obtain ⟨A1, c1, e1, hl1, hF1⟩ := hA.h1
 obtain ⟨A2, c2, e2, hl2, hF2⟩ := hA.h2
 obtain ⟨A3, c3, e3, hl3, hF3⟩ := hA.h3
 obtain ⟨A6, c6, e6, hl6, hF6⟩ := hA.h6
 subst e0 e1 e2 e3 e6
 have HR := Aside0.mk hR
 have HA := Aside0.mk hA
 have HF0 := Aside0.mk hF0
 have HF1 := Aside0.mk hF1
 have HF2 := Aside0.mk hF2
 have HF3 := Aside0.mk hF3
 obtain ⟨n0, hn0⟩ : ∃ n0, n0 = S.stable.length := ⟨_, rfl⟩
 obtain ⟨n1, hn1⟩ : ∃ n1, n1 = S.old.length := ⟨_, rfl⟩
 obtain ⟨n2, hn2⟩ : ∃ n2, n2 = S.pend.length := ⟨_, rfl⟩
 obtain ⟨n3, hn3⟩ : ∃ n3, n3 = fl.length := ⟨_, rfl⟩
 obtain ⟨n6, hn6⟩ : ∃ n6, n6 = sv.length := ⟨_, rfl⟩
 obtain ⟨fa, hfa⟩ : ∃ fa, fa = S.failed := ⟨_, rfl⟩
 have EQ := Aside0.mk (show n0 = S.stable.length ∧ n1 = S.old.length ∧ n2 = S.pend.length ∧ n3 = fl.length ∧ n6 = sv.length ∧ fa = S.failed from ⟨hn0, hn1, hn2, hn3, hn6, hfa⟩)
 rw [← hn0, ← hn1, ← hn2, ← hn3, ← hn6, ← hfa]
 rw [← hn0, ← hn1, ← hn2, ← hn3, ← hn6, ← hfa] at HR
 clear hR hA hF0 hF1 hF2 hF3 hF6 hl0 hl1 hl2 hl3 hl6 hn0 hn1 hn2 hn3 hn6 hfa
 unfold RPost2
 cases hpb : plainB sys ep with
 | false =>
  have hu : syncS S sys ep = (1, S) := by unfold syncS; rw [hpb]; rfl
  rw [hu]
  have HWR := Aside0.mk (fun w => dasdref03_writer.calls sys ep false w (by rw [writer_f, hpb]))
  clear hu hpb
  go_enter Try.func29, Try.ntmps29
  go_wp2_with fail
  obtain ⟨w1, hw1⟩ : ∃ w1, w1 = ((W.alloc (.cells #[.slice A0 n0 c0, .slice A1 n1 c1, .slice A2 n2 c2, .slice A3 n3 c3, .bool fa, .int .i64 fu, .slice A6 n6 c6] 31)).alloc (.cells #[.int .i64 sys, .int .i64 ep] 35)).alloc (.cells #[.slice none 0 0, .slice none 0 0, .slice none 0 0, .slice none 0 0, .bool false, .int .i64 0, .slice none 0 0] 31) := ⟨_, rfl⟩
  obtain ⟨g0, gw, g1, hb1⟩ := three W (.cells #[.slice A0 n0 c0, .slice A1 n1 c1, .slice A2 n2 c2, .slice A3 n3 c3, .bool fa, .int .i64 fu, .slice A6 n6 c6] 31) (.cells #[.int .i64 sys, .int .i64 ep] 35) (.cells #[.slice none 0 0, .slice none 0 0, .slice none 0 0, .slice none 0 0, .bool false, .int .i64 0, .slice none 0 0] 31)
  rw [← hw1] at g0 gw g1 hb1 ⊢
  obtain ⟨bx, hbx⟩ : ∃ bx, bx = W.heap.size := ⟨_, rfl⟩
  obtain ⟨bw, hbw⟩ : ∃ bw, bw = W.heap.size + 1 := ⟨_, rfl⟩
  obtain ⟨rb, hrb⟩ : ∃ rb, rb = W.heap.size + 1 + 1 := ⟨_, rfl⟩
  rw [← hrb] at g1 ⊢
  rw [← hbw] at gw ⊢
  rw [show (Value.pointer (some ⟨W.heap.size, 0, none⟩)) = .pointer (some ⟨bx, 0, none⟩) by rw [hbx]]
  rw [← hbx] at g0
  have hs1 : w1.heap.size = W.heap.size + 1 + 1 + 1 := by rw [hw1]; simp
  have LB := Aside0.mk (show W.heap.size ≤ bx ∧ W.heap.size ≤ bw ∧ W.heap.size ≤ rb ∧ bx ≠ rb ∧ bw ≠ rb ∧ bx ≠ bw ∧ bx < w1.heap.size ∧ rb < w1.heap.size ∧ bw < w1.heap.size from ⟨by omega, by omega, by omega, by omega, by omega, by omega, by omega, by omega, by omega⟩)
  have ne1 : bx ≠ rb := LB.out.2.2.2.1
  have ne2 : rb ≠ bx := fun e => ne1 e.symm
  have HBW := Aside0.mk hb1
  obtain ⟨k0, k1, k2, k3, k4, k5, k6⟩ := cells7 g0
  obtain ⟨z0, z1, z2, z3, z4, z5, z6⟩ := froz7 g0
  have y0 : w1.cell? ⟨bw, 0, none⟩ = some (.int .i64 sys) := by rw [blk_cell gw]; rfl
  have y1 : w1.cell? ⟨bw, 1, none⟩ = some (.int .i64 ep) := by rw [blk_cell gw]; rfl
  obtain ⟨r0, r1, r2, r3, r4, r5, r6⟩ := cells7 g1
  obtain ⟨s0, s1, s2, s3, s4, s5, s6⟩ := froz7 g1
  have G0 := Aside0.mk g0
  have GW := Aside0.mk gw
  have G1 := Aside0.mk g1
  clear g0 gw g1
  clear hw1 hb1 hbx hbw hrb hs1
  refine (HWR.out w1).mono ?_
  rintro e w2 ⟨rfl, hb⟩
  have g0 := blk_below G0.out hb
  have gw := blk_below GW.out hb
  have g1 := blk_below G1.out hb
  have hbw := HBW.out.trans (hb.mono HBW.out.size)
  have SZ12 : w1.heap.size ≤ w2.heap.size := hb.size
  clear k0 k1 k2 k3 k4 k5 k6 z0 z1 z2 z3 z4 z5 z6 y0 y1 r0 r1 r2 r3 r4 r5 r6 s0 s1 s2 s3 s4 s5 s6 G0 GW G1 HBW
  have HBW := Aside0.mk hbw
  obtain ⟨k0, k1, k2, k3, k4, k5, k6⟩ := cells7 g0
  obtain ⟨z0, z1, z2, z3, z4, z5, z6⟩ := froz7 g0
  have y0 : w2.cell? ⟨bw, 0, none⟩ = some (.int .i64 sys) := by rw [blk_cell gw]; rfl
  have y1 : w2.cell? ⟨bw, 1, none⟩ = some (.int .i64 ep) := by rw [blk_cell gw]; rfl
  obtain ⟨r0, r1, r2, r3, r4, r5, r6⟩ := cells7 g1
  obtain ⟨s0, s1, s2, s3, s4, s5, s6⟩ := froz7 g1
  have G0 := Aside0.mk g0
  have GW := Aside0.mk gw
  have G1 := Aside0.mk g1
  clear g0 gw g1
  clear hb hbw
  go_wp2_with fail
  have hbC := set7_below HBW.out LB.out.2.2.1 (.slice A0 n0 c0) (.slice A1 n1 c1) (.slice A2 n2 c2) (.slice A3 n3 c3) (.bool fa) (.int .i64 fu) (.slice A6 n6 c6)
  refine bodyPost_ret (results_ct rfl _ _ rb 31 #[.slice A0 n0 c0, .slice A1 n1 c1, .slice A2 n2 c2, .slice A3 n3 c3, .bool fa, .int .i64 fu, .slice A6 n6 c6] (0, 0) _ rfl (set7_blk G1.out (.slice A0 n0 c0) (.slice A1 n1 c1) (.slice A2 n2 c2) (.slice A3 n3 c3) (.bool fa) (.int .i64 fu) (.slice A6 n6 c6)) Try.underlying31 rfl (by kernel_rfl)) rfl ?_
  refine ⟨_, rfl, ?_, hbC⟩
  exact (HR.out.below hbC).mono (fun k hk _ => Or.inl hk)
 | true =>
  have hbo : 1 ≤ sys ∧ sys ≤ 4 ∧ 0 ≤ ep ∧ ep ≤ 1099511627776 := of_decide_eq_true hpb
  have HWR := Aside0.mk (fun w => dasdref03_writer.calls sys ep true w (by rw [writer_f, hpb]))
  have HSY := Aside0.mk (show syncS S sys ep = (if (admitS S sys ep).1 = 0 then (0, finishS (isOf sys) (List.replicate (admitS S sys ep).2.pend.length 140) (admitS S sys ep).2) else admitS S sys ep) by unfold syncS; rw [if_pos hpb])
  have HBO := Aside0.mk hbo
  have EFA := Aside0.mk (show S.failed = fa from EQ.out.2.2.2.2.2.symm)
  clear hpb hbo
  cases fa with
  | true =>
   have hu : syncS S sys ep = (10, S) := by
    have ha : admitS S sys ep = (10, S) := by unfold admitS; rw [if_pos EFA.out]
    rw [HSY.out, ha, if_neg (by show ¬ (10 : Int) = 0; decide)]
   rw [hu]
   clear hu
   go_enter Try.func29, Try.ntmps29
   go_wp2_with fail
   obtain ⟨w1, hw1⟩ : ∃ w1, w1 = ((W.alloc (.cells #[.slice A0 n0 c0, .slice A1 n1 c1, .slice A2 n2 c2, .slice A3 n3 c3, .bool true, .int .i64 fu, .slice A6 n6 c6] 31)).alloc (.cells #[.int .i64 sys, .int .i64 ep] 35)).alloc (.cells #[.slice none 0 0, .slice none 0 0, .slice none 0 0, .slice none 0 0, .bool false, .int .i64 0, .slice none 0 0] 31) := ⟨_, rfl⟩
   obtain ⟨g0, gw, g1, hb1⟩ := three W (.cells #[.slice A0 n0 c0, .slice A1 n1 c1, .slice A2 n2 c2, .slice A3 n3 c3, .bool true, .int .i64 fu, .slice A6 n6 c6] 31) (.cells #[.int .i64 sys, .int .i64 ep] 35) (.cells #[.slice none 0 0, .slice none 0 0, .slice none 0 0, .slice none 0 0, .bool false, .int .i64 0, .slice none 0 0] 31)
   rw [← hw1] at g0 gw g1 hb1 ⊢
   obtain ⟨bx, hbx⟩ : ∃ bx, bx = W.heap.size := ⟨_, rfl⟩
   obtain ⟨bw, hbw⟩ : ∃ bw, bw = W.heap.size + 1 := ⟨_, rfl⟩
   obtain ⟨rb, hrb⟩ : ∃ rb, rb = W.heap.size + 1 + 1 := ⟨_, rfl⟩
   rw [← hrb] at g1 ⊢
   rw [← hbw] at gw ⊢
   rw [show (Value.pointer (some ⟨W.heap.size, 0, none⟩)) = .pointer (some ⟨bx, 0, none⟩) by rw [hbx]]
   rw [← hbx] at g0
   have hs1 : w1.heap.size = W.heap.size + 1 + 1 + 1 := by rw [hw1]; simp
   have LB := Aside0.mk (show W.heap.size ≤ bx ∧ W.heap.size ≤ bw ∧ W.heap.size ≤ rb ∧ bx ≠ rb ∧ bw ≠ rb ∧ bx ≠ bw ∧ bx < w1.heap.size ∧ rb < w1.heap.size ∧ bw < w1.heap.size from ⟨by omega, by omega, by omega, by omega, by omega, by omega, by omega, by omega, by omega⟩)
   have ne1 : bx ≠ rb := LB.out.2.2.2.1
   have ne2 : rb ≠ bx := fun e => ne1 e.symm
   have HBW := Aside0.mk hb1
   obtain ⟨k0, k1, k2, k3, k4, k5, k6⟩ := cells7 g0
   obtain ⟨z0, z1, z2, z3, z4, z5, z6⟩ := froz7 g0
   have y0 : w1.cell? ⟨bw, 0, none⟩ = some (.int .i64 sys) := by rw [blk_cell gw]; rfl
   have y1 : w1.cell? ⟨bw, 1, none⟩ = some (.int .i64 ep) := by rw [blk_cell gw]; rfl
   obtain ⟨r0, r1, r2, r3, r4, r5, r6⟩ := cells7 g1
   obtain ⟨s0, s1, s2, s3, s4, s5, s6⟩ := froz7 g1
   have G0 := Aside0.mk g0
   have GW := Aside0.mk gw
   have G1 := Aside0.mk g1
   clear g0 gw g1
   clear hw1 hb1 hbx hbw hrb hs1
   refine (HWR.out w1).mono ?_
   rintro e w2 ⟨rfl, hb⟩
   have g0 := blk_below G0.out hb
   have gw := blk_below GW.out hb
   have g1 := blk_below G1.out hb
   have hbw := HBW.out.trans (hb.mono HBW.out.size)
   have SZ12 : w1.heap.size ≤ w2.heap.size := hb.size
   clear k0 k1 k2 k3 k4 k5 k6 z0 z1 z2 z3 z4 z5 z6 y0 y1 r0 r1 r2 r3 r4 r5 r6 s0 s1 s2 s3 s4 s5 s6 G0 GW G1 HBW
   have HBW := Aside0.mk hbw
   obtain ⟨k0, k1, k2, k3, k4, k5, k6⟩ := cells7 g0
   obtain ⟨z0, z1, z2, z3, z4, z5, z6⟩ := froz7 g0
   have y0 : w2.cell? ⟨bw, 0, none⟩ = some (.int .i64 sys) := by rw [blk_cell gw]; rfl
   have y1 : w2.cell? ⟨bw, 1, none⟩ = some (.int .i64 ep) := by rw [blk_cell gw]; rfl
   obtain ⟨r0, r1, r2, r3, r4, r5, r6⟩ := cells7 g1
   obtain ⟨s0, s1, s2, s3, s4, s5, s6⟩ := froz7 g1
   have G0 := Aside0.mk g0
   have GW := Aside0.mk gw
   have G1 := Aside0.mk g1
   clear g0 gw g1
   clear hb hbw
   go_wp2_with fail
   have hbC := set7_below HBW.out LB.out.2.2.1 (.slice A0 n0 c0) (.slice A1 n1 c1) (.slice A2 n2 c2) (.slice A3 n3 c3) (.bool true) (.int .i64 fu) (.slice A6 n6 c6)
   refine bodyPost_ret (results_ct rfl _ _ rb 31 #[.slice A0 n0 c0, .slice A1 n1 c1, .slice A2 n2 c2, .slice A3 n3 c3, .bool true, .int .i64 fu, .slice A6 n6 c6] (0, 0) _ rfl (set7_blk G1.out (.slice A0 n0 c0) (.slice A1 n1 c1) (.slice A2 n2 c2) (.slice A3 n3 c3) (.bool true) (.int .i64 fu) (.slice A6 n6 c6)) Try.underlying31 rfl (by kernel_rfl)) rfl ?_
   refine ⟨_, rfl, ?_, hbC⟩
   exact (HR.out.below hbC).mono (fun k hk _ => Or.inl hk)
  | false =>
   have HFC := Aside0.mk (fun (w : World) (hb : Below W.heap.size W w) => fenced_ref (HR.out.below hb) sys ep HBO.out.1 HBO.out.2.1 HBO.out.2.2.1 HBO.out.2.2.2)
   cases hfe : fencedS S sys ep with
   | true =>
    have hu : syncS S sys ep = (13, S) := by
     have ha : admitS S sys ep = (13, S) := by unfold admitS; rw [if_neg (by rw [EFA.out]; simp), if_pos hfe]
     rw [HSY.out, ha, if_neg (by show ¬ (13 : Int) = 0; decide)]
    rw [hu]
    rw [hfe] at HFC
    clear hu hfe
    go_enter Try.func29, Try.ntmps29
    go_wp2_with fail
    obtain ⟨w1, hw1⟩ : ∃ w1, w1 = ((W.alloc (.cells #[.slice A0 n0 c0, .slice A1 n1 c1, .slice A2 n2 c2, .slice A3 n3 c3, .bool false, .int .i64 fu, .slice A6 n6 c6] 31)).alloc (.cells #[.int .i64 sys, .int .i64 ep] 35)).alloc (.cells #[.slice none 0 0, .slice none 0 0, .slice none 0 0, .slice none 0 0, .bool false, .int .i64 0, .slice none 0 0] 31) := ⟨_, rfl⟩
    obtain ⟨g0, gw, g1, hb1⟩ := three W (.cells #[.slice A0 n0 c0, .slice A1 n1 c1, .slice A2 n2 c2, .slice A3 n3 c3, .bool false, .int .i64 fu, .slice A6 n6 c6] 31) (.cells #[.int .i64 sys, .int .i64 ep] 35) (.cells #[.slice none 0 0, .slice none 0 0, .slice none 0 0, .slice none 0 0, .bool false, .int .i64 0, .slice none 0 0] 31)
    rw [← hw1] at g0 gw g1 hb1 ⊢
    obtain ⟨bx, hbx⟩ : ∃ bx, bx = W.heap.size := ⟨_, rfl⟩
    obtain ⟨bw, hbw⟩ : ∃ bw, bw = W.heap.size + 1 := ⟨_, rfl⟩
    obtain ⟨rb, hrb⟩ : ∃ rb, rb = W.heap.size + 1 + 1 := ⟨_, rfl⟩
    rw [← hrb] at g1 ⊢
    rw [← hbw] at gw ⊢
    rw [show (Value.pointer (some ⟨W.heap.size, 0, none⟩)) = .pointer (some ⟨bx, 0, none⟩) by rw [hbx]]
    rw [← hbx] at g0
    have hs1 : w1.heap.size = W.heap.size + 1 + 1 + 1 := by rw [hw1]; simp
    have LB := Aside0.mk (show W.heap.size ≤ bx ∧ W.heap.size ≤ bw ∧ W.heap.size ≤ rb ∧ bx ≠ rb ∧ bw ≠ rb ∧ bx ≠ bw ∧ bx < w1.heap.size ∧ rb < w1.heap.size ∧ bw < w1.heap.size from ⟨by omega, by omega, by omega, by omega, by omega, by omega, by omega, by omega, by omega⟩)
    have ne1 : bx ≠ rb := LB.out.2.2.2.1
    have ne2 : rb ≠ bx := fun e => ne1 e.symm
    have HBW := Aside0.mk hb1
    obtain ⟨k0, k1, k2, k3, k4, k5, k6⟩ := cells7 g0
    obtain ⟨z0, z1, z2, z3, z4, z5, z6⟩ := froz7 g0
    have y0 : w1.cell? ⟨bw, 0, none⟩ = some (.int .i64 sys) := by rw [blk_cell gw]; rfl
    have y1 : w1.cell? ⟨bw, 1, none⟩ = some (.int .i64 ep) := by rw [blk_cell gw]; rfl
    obtain ⟨r0, r1, r2, r3, r4, r5, r6⟩ := cells7 g1
    obtain ⟨s0, s1, s2, s3, s4, s5, s6⟩ := froz7 g1
    have G0 := Aside0.mk g0
    have GW := Aside0.mk gw
    have G1 := Aside0.mk g1
    clear g0 gw g1
    clear hw1 hb1 hbx hbw hrb hs1
    refine (HWR.out w1).mono ?_
    rintro e w2 ⟨rfl, hb⟩
    have g0 := blk_below G0.out hb
    have gw := blk_below GW.out hb
    have g1 := blk_below G1.out hb
    have hbw := HBW.out.trans (hb.mono HBW.out.size)
    have SZ12 : w1.heap.size ≤ w2.heap.size := hb.size
    clear k0 k1 k2 k3 k4 k5 k6 z0 z1 z2 z3 z4 z5 z6 y0 y1 r0 r1 r2 r3 r4 r5 r6 s0 s1 s2 s3 s4 s5 s6 G0 GW G1 HBW
    have HBW := Aside0.mk hbw
    obtain ⟨k0, k1, k2, k3, k4, k5, k6⟩ := cells7 g0
    obtain ⟨z0, z1, z2, z3, z4, z5, z6⟩ := froz7 g0
    have y0 : w2.cell? ⟨bw, 0, none⟩ = some (.int .i64 sys) := by rw [blk_cell gw]; rfl
    have y1 : w2.cell? ⟨bw, 1, none⟩ = some (.int .i64 ep) := by rw [blk_cell gw]; rfl
    obtain ⟨r0, r1, r2, r3, r4, r5, r6⟩ := cells7 g1
    obtain ⟨s0, s1, s2, s3, s4, s5, s6⟩ := froz7 g1
    have G0 := Aside0.mk g0
    have GW := Aside0.mk gw
    have G1 := Aside0.mk g1
    clear g0 gw g1
    clear hb hbw
    go_wp2_with fail
    refine (HFC.out w2 HBW.out).mono ?_
    rintro e w3 ⟨rfl, hb⟩
    have g0 := blk_below G0.out hb
    have gw := blk_below GW.out hb
    have g1 := blk_below G1.out hb
    have hbw := HBW.out.trans (hb.mono HBW.out.size)
    have SZ23 : w2.heap.size ≤ w3.heap.size := hb.size
    clear k0 k1 k2 k3 k4 k5 k6 z0 z1 z2 z3 z4 z5 z6 y0 y1 r0 r1 r2 r3 r4 r5 r6 s0 s1 s2 s3 s4 s5 s6 G0 GW G1 HBW
    have HBW := Aside0.mk hbw
    obtain ⟨k0, k1, k2, k3, k4, k5, k6⟩ := cells7 g0
    obtain ⟨z0, z1, z2, z3, z4, z5, z6⟩ := froz7 g0
    have y0 : w3.cell? ⟨bw, 0, none⟩ = some (.int .i64 sys) := by rw [blk_cell gw]; rfl
    have y1 : w3.cell? ⟨bw, 1, none⟩ = some (.int .i64 ep) := by rw [blk_cell gw]; rfl
    obtain ⟨r0, r1, r2, r3, r4, r5, r6⟩ := cells7 g1
    obtain ⟨s0, s1, s2, s3, s4, s5, s6⟩ := froz7 g1
    have G0 := Aside0.mk g0
    have GW := Aside0.mk gw
    have G1 := Aside0.mk g1
    clear g0 gw g1
    clear hb hbw
    go_wp2_with fail
    have hbC := set7_below HBW.out LB.out.2.2.1 (.slice A0 n0 c0) (.slice A1 n1 c1) (.slice A2 n2 c2) (.slice A3 n3 c3) (.bool false) (.int .i64 fu) (.slice A6 n6 c6)
    refine bodyPost_ret (results_ct rfl _ _ rb 31 #[.slice A0 n0 c0, .slice A1 n1 c1, .slice A2 n2 c2, .slice A3 n3 c3, .bool false, .int .i64 fu, .slice A6 n6 c6] (0, 0) _ rfl (set7_blk G1.out (.slice A0 n0 c0) (.slice A1 n1 c1) (.slice A2 n2 c2) (.slice A3 n3 c3) (.bool false) (.int .i64 fu) (.slice A6 n6 c6)) Try.underlying31 rfl (by kernel_rfl)) rfl ?_
    refine ⟨_, rfl, ?_, hbC⟩
    exact (HR.out.below hbC).mono (fun k hk _ => Or.inl hk)
   | false =>
    have ha := admit_use S sys ep EFA.out hfe
    have hgu : Good k (useS S).2 := by have := HG.out.admit sys ep; rw [ha] at this; exact this
    rw [ha] at HSY
    rw [hfe] at HFC
    have HGU := Aside0.mk hgu
    clear ha hgu hfe
    cases hb' : (useS S).1 with
    | true =>
     rw [hb'] at HSY
     have hu : syncS S sys ep = (10, (useS S).2) := by rw [HSY.out, if_pos rfl, if_neg (by show ¬ (10 : Int) = 0; decide)]
     rw [hu]
     have HUB := Aside0.mk hb'
     clear hu hb'
     go_enter Try.func29, Try.ntmps29
     go_wp2_with fail
     obtain ⟨w1, hw1⟩ : ∃ w1, w1 = ((W.alloc (.cells #[.slice A0 n0 c0, .slice A1 n1 c1, .slice A2 n2 c2, .slice A3 n3 c3, .bool false, .int .i64 fu, .slice A6 n6 c6] 31)).alloc (.cells #[.int .i64 sys, .int .i64 ep] 35)).alloc (.cells #[.slice none 0 0, .slice none 0 0, .slice none 0 0, .slice none 0 0, .bool false, .int .i64 0, .slice none 0 0] 31) := ⟨_, rfl⟩
     obtain ⟨g0, gw, g1, hb1⟩ := three W (.cells #[.slice A0 n0 c0, .slice A1 n1 c1, .slice A2 n2 c2, .slice A3 n3 c3, .bool false, .int .i64 fu, .slice A6 n6 c6] 31) (.cells #[.int .i64 sys, .int .i64 ep] 35) (.cells #[.slice none 0 0, .slice none 0 0, .slice none 0 0, .slice none 0 0, .bool false, .int .i64 0, .slice none 0 0] 31)
     rw [← hw1] at g0 gw g1 hb1 ⊢
     obtain ⟨bx, hbx⟩ : ∃ bx, bx = W.heap.size := ⟨_, rfl⟩
     obtain ⟨bw, hbw⟩ : ∃ bw, bw = W.heap.size + 1 := ⟨_, rfl⟩
     obtain ⟨rb, hrb⟩ : ∃ rb, rb = W.heap.size + 1 + 1 := ⟨_, rfl⟩
     rw [← hrb] at g1 ⊢
     rw [← hbw] at gw ⊢
     rw [show (Value.pointer (some ⟨W.heap.size, 0, none⟩)) = .pointer (some ⟨bx, 0, none⟩) by rw [hbx]]
     rw [← hbx] at g0
     have hs1 : w1.heap.size = W.heap.size + 1 + 1 + 1 := by rw [hw1]; simp
     have LB := Aside0.mk (show W.heap.size ≤ bx ∧ W.heap.size ≤ bw ∧ W.heap.size ≤ rb ∧ bx ≠ rb ∧ bw ≠ rb ∧ bx ≠ bw ∧ bx < w1.heap.size ∧ rb < w1.heap.size ∧ bw < w1.heap.size from ⟨by omega, by omega, by omega, by omega, by omega, by omega, by omega, by omega, by omega⟩)
     have ne1 : bx ≠ rb := LB.out.2.2.2.1
     have ne2 : rb ≠ bx := fun e => ne1 e.symm
     have HBW := Aside0.mk hb1
     obtain ⟨k0, k1, k2, k3, k4, k5, k6⟩ := cells7 g0
     obtain ⟨z0, z1, z2, z3, z4, z5, z6⟩ := froz7 g0
     have y0 : w1.cell? ⟨bw, 0, none⟩ = some (.int .i64 sys) := by rw [blk_cell gw]; rfl
     have y1 : w1.cell? ⟨bw, 1, none⟩ = some (.int .i64 ep) := by rw [blk_cell gw]; rfl
     obtain ⟨r0, r1, r2, r3, r4, r5, r6⟩ := cells7 g1
     obtain ⟨s0, s1, s2, s3, s4, s5, s6⟩ := froz7 g1
     have G0 := Aside0.mk g0
     have GW := Aside0.mk gw
     have G1 := Aside0.mk g1
     clear g0 gw g1
     clear hw1 hb1 hbx hbw hrb hs1
     refine (HWR.out w1).mono ?_
     rintro e w2 ⟨rfl, hb⟩
     have g0 := blk_below G0.out hb
     have gw := blk_below GW.out hb
     have g1 := blk_below G1.out hb
     have hbw := HBW.out.trans (hb.mono HBW.out.size)
     have SZ12 : w1.heap.size ≤ w2.heap.size := hb.size
     clear k0 k1 k2 k3 k4 k5 k6 z0 z1 z2 z3 z4 z5 z6 y0 y1 r0 r1 r2 r3 r4 r5 r6 s0 s1 s2 s3 s4 s5 s6 G0 GW G1 HBW
     have HBW := Aside0.mk hbw
     obtain ⟨k0, k1, k2, k3, k4, k5, k6⟩ := cells7 g0
     obtain ⟨z0, z1, z2, z3, z4, z5, z6⟩ := froz7 g0
     have y0 : w2.cell? ⟨bw, 0, none⟩ = some (.int .i64 sys) := by rw [blk_cell gw]; rfl
     have y1 : w2.cell? ⟨bw, 1, none⟩ = some (.int .i64 ep) := by rw [blk_cell gw]; rfl
     obtain ⟨r0, r1, r2, r3, r4, r5, r6⟩ := cells7 g1
     obtain ⟨s0, s1, s2, s3, s4, s5, s6⟩ := froz7 g1
     have G0 := Aside0.mk g0
     have GW := Aside0.mk gw
     have G1 := Aside0.mk g1
     clear g0 gw g1
     clear hb hbw
     go_wp2_with fail
     refine (HFC.out w2 HBW.out).mono ?_
     rintro e w3 ⟨rfl, hb⟩
     have g0 := blk_below G0.out hb
     have gw := blk_below GW.out hb
     have g1 := blk_below G1.out hb
     have hbw := HBW.out.trans (hb.mono HBW.out.size)
     have SZ23 : w2.heap.size ≤ w3.heap.size := hb.size
     clear k0 k1 k2 k3 k4 k5 k6 z0 z1 z2 z3 z4 z5 z6 y0 y1 r0 r1 r2 r3 r4 r5 r6 s0 s1 s2 s3 s4 s5 s6 G0 GW G1 HBW
     have HBW := Aside0.mk hbw
     obtain ⟨k0, k1, k2, k3, k4, k5, k6⟩ := cells7 g0
     obtain ⟨z0, z1, z2, z3, z4, z5, z6⟩ := froz7 g0
     have y0 : w3.cell? ⟨bw, 0, none⟩ = some (.int .i64 sys) := by rw [blk_cell gw]; rfl
     have y1 : w3.cell? ⟨bw, 1, none⟩ = some (.int .i64 ep) := by rw [blk_cell gw]; rfl
     obtain ⟨r0, r1, r2, r3, r4, r5, r6⟩ := cells7 g1
     obtain ⟨s0, s1, s2, s3, s4, s5, s6⟩ := froz7 g1
     have G0 := Aside0.mk g0
     have GW := Aside0.mk gw
     have G1 := Aside0.mk g1
     clear g0 gw g1
     clear hb hbw
     have SZ13 : w1.heap.size ≤ w3.heap.size := Nat.le_trans SZ12 SZ23
     go_wp2_with fail
     refine (use_ref (ok := fun k => ok k ∧ k < W.heap.size) ((HR.out.mono (ok' := fun k => ok k ∧ k < W.heap.size) (fun k hk hlt => ⟨hk, hlt⟩)).below HBW.out) HG.out hk).mono ?_
     rintro e w4 ⟨v4, rfl, hR4, hb⟩
     rw [HUB.out]
     have HW13 := Aside0.mk (show w1.heap.size ≤ w3.heap.size from SZ13)
     obtain ⟨E0, E1, E2, E3, E6, d0, d1, d2, d3, d6, gl, gu, gs, hRC⟩ := hR4.open_
     obtain rfl := hRC.hv
     obtain ⟨S2, hS2⟩ : ∃ S2, S2 = (useS S).2 := ⟨_, rfl⟩
     rw [← hS2] at hR4 ⊢
     have HS2 := Aside0.mk hS2
     clear hS2
     obtain ⟨m0, hm0⟩ : ∃ m, m = S2.stable.length := ⟨_, rfl⟩
     obtain ⟨m1, hm1⟩ : ∃ m, m = S2.old.length := ⟨_, rfl⟩
     obtain ⟨m2, hm2⟩ : ∃ m, m = S2.pend.length := ⟨_, rfl⟩
     obtain ⟨m3, hm3⟩ : ∃ m, m = gl.length := ⟨_, rfl⟩
     obtain ⟨m6, hm6⟩ : ∃ m, m = gs.length := ⟨_, rfl⟩
     obtain ⟨ma, hma⟩ : ∃ m, m = S2.failed := ⟨_, rfl⟩
     rw [← hm0, ← hm1, ← hm2, ← hm3, ← hm6, ← hma]
     rw [← hm0, ← hm1, ← hm2, ← hm3, ← hm6, ← hma] at hR4
     have HR4 := Aside0.mk hR4
     clear hRC hm0 hm1 hm2 hm3 hm6 hma hR4
     have g0 := blk_below G0.out hb
     have gw := blk_below GW.out hb
     have g1 := blk_below G1.out hb
     have hbw := HBW.out.trans (hb.mono HBW.out.size)
     have SZ34 : w3.heap.size ≤ w4.heap.size := hb.size
     clear k0 k1 k2 k3 k4 k5 k6 z0 z1 z2 z3 z4 z5 z6 y0 y1 r0 r1 r2 r3 r4 r5 r6 s0 s1 s2 s3 s4 s5 s6 G0 GW G1 HBW
     have HBW := Aside0.mk hbw
     obtain ⟨k0, k1, k2, k3, k4, k5, k6⟩ := cells7 g0
     obtain ⟨z0, z1, z2, z3, z4, z5, z6⟩ := froz7 g0
     have y0 : w4.cell? ⟨bw, 0, none⟩ = some (.int .i64 sys) := by rw [blk_cell gw]; rfl
     have y1 : w4.cell? ⟨bw, 1, none⟩ = some (.int .i64 ep) := by rw [blk_cell gw]; rfl
     obtain ⟨r0, r1, r2, r3, r4, r5, r6⟩ := cells7 g1
     obtain ⟨s0, s1, s2, s3, s4, s5, s6⟩ := froz7 g1
     have G0 := Aside0.mk g0
     have GW := Aside0.mk gw
     have G1 := Aside0.mk g1
     clear g0 gw g1
     clear hb hbw
     go_upto_region 8 with (fail)
     obtain ⟨w5, hw5⟩ : ∃ w5, w5 = set7 w4 bx (.slice E0 m0 d0) (.slice E1 m1 d1) (.slice E2 m2 d2) (.slice E3 m3 d3) (.bool ma) (.int .i64 gu) (.slice E6 m6 d6) := ⟨_, rfl⟩
     have hf5 : ∀ k, k ≠ bx → w5.heap[k]? = w4.heap[k]? := fun k hk => by rw [hw5]; exact set7_far w4 bx (.slice E0 m0 d0) (.slice E1 m1 d1) (.slice E2 m2 d2) (.slice E3 m3 d3) (.bool ma) (.int .i64 gu) (.slice E6 m6 d6) k hk
     have g0 : w5.heap[bx]? = some (.cells #[.slice E0 m0 d0, .slice E1 m1 d1, .slice E2 m2 d2, .slice E3 m3 d3, .bool ma, .int .i64 gu, .slice E6 m6 d6] 31 (0, 0)) := by rw [hw5]; exact set7_blk G0.out (.slice E0 m0 d0) (.slice E1 m1 d1) (.slice E2 m2 d2) (.slice E3 m3 d3) (.bool ma) (.int .i64 gu) (.slice E6 m6 d6)
     have g1 := (hf5 rb ne2).trans G1.out
     have gw := (hf5 bw (fun e => LB.out.2.2.2.2.2.1 e.symm)).trans GW.out
     have hb5 : Below W.heap.size W w5 := by rw [hw5]; exact set7_below HBW.out LB.out.1 (.slice E0 m0 d0) (.slice E1 m1 d1) (.slice E2 m2 d2) (.slice E3 m3 d3) (.bool ma) (.int .i64 gu) (.slice E6 m6 d6)
     have hs5 : w5.heap.size = w4.heap.size := by rw [hw5]; exact set7_size w4 bx (.slice E0 m0 d0) (.slice E1 m1 d1) (.slice E2 m2 d2) (.slice E3 m3 d3) (.bool ma) (.int .i64 gu) (.slice E6 m6 d6)
     have HF5 := Aside0.mk hf5
     have HS5 := Aside0.mk hs5
     have HOK := Aside0.mk (show ∀ k, ((ok k ∧ k < W.heap.size) ∨ w3.heap.size ≤ k) → k ≠ bx ∧ k ≠ rb ∧ (ok k ∨ W.heap.size ≤ k) from fun k hk => by
      obtain ⟨l1, l2, l3, l4, l5, l6, l7, l8, l9⟩ := LB.out
      have l10 := HW13.out
      rcases hk with hk | hk
      ·exact ⟨by omega, by omega, Or.inl hk.1⟩
      ·exact ⟨by omega, by omega, Or.inr (by omega)⟩)
     unfold set7 at hw5
     rw [← hw5]
     clear hw5 hf5 hs5 k0 k1 k2 k3 k4 k5 k6 z0 z1 z2 z3 z4 z5 z6 y0 y1 r0 r1 r2 r3 r4 r5 r6 s0 s1 s2 s3 s4 s5 s6 G0 GW G1 HBW
     have HBW := Aside0.mk hb5
     obtain ⟨k0, k1, k2, k3, k4, k5, k6⟩ := cells7 g0
     obtain ⟨z0, z1, z2, z3, z4, z5, z6⟩ := froz7 g0
     have y0 : w5.cell? ⟨bw, 0, none⟩ = some (.int .i64 sys) := by rw [blk_cell gw]; rfl
     have y1 : w5.cell? ⟨bw, 1, none⟩ = some (.int .i64 ep) := by rw [blk_cell gw]; rfl
     obtain ⟨r0, r1, r2, r3, r4, r5, r6⟩ := cells7 g1
     obtain ⟨s0, s1, s2, s3, s4, s5, s6⟩ := froz7 g1
     have G0 := Aside0.mk g0
     have GW := Aside0.mk gw
     have G1 := Aside0.mk g1
     clear g0 gw g1
     clear hb5
     go_wp2_with fail
     have hbC := set7_below HBW.out LB.out.2.2.1 (.slice E0 m0 d0) (.slice E1 m1 d1) (.slice E2 m2 d2) (.slice E3 m3 d3) (.bool ma) (.int .i64 gu) (.slice E6 m6 d6)
     refine bodyPost_ret (results_ct rfl _ _ rb 31 #[.slice E0 m0 d0, .slice E1 m1 d1, .slice E2 m2 d2, .slice E3 m3 d3, .bool ma, .int .i64 gu, .slice E6 m6 d6] (0, 0) _ rfl (set7_blk G1.out (.slice E0 m0 d0) (.slice E1 m1 d1) (.slice E2 m2 d2) (.slice E3 m3 d3) (.bool ma) (.int .i64 gu) (.slice E6 m6 d6)) Try.underlying31 rfl (by kernel_rfl)) rfl ?_
     refine ⟨_, rfl, ?_, hbC⟩
     have hh := (HR4.out.step (fun k hk _ => (set7_far w5 rb (.slice E0 m0 d0) (.slice E1 m1 d1) (.slice E2 m2 d2) (.slice E3 m3 d3) (.bool ma) (.int .i64 gu) (.slice E6 m6 d6) k (HOK.out k hk).2.1).trans (HF5.out k (HOK.out k hk).1))).mono (fun k hk _ => (HOK.out k hk).2.2)
     rw [HS2.out] at hh
     exact hh
    | false =>
     rw [hb'] at HSY
     have hu : syncS S sys ep = (0, finishS (isOf sys) (List.replicate (useS S).2.pend.length 140) (useS S).2) := by rw [HSY.out]; simp
     rw [hu]
     have HUB := Aside0.mk hb'
     clear hu hb'
     go_enter Try.func29, Try.ntmps29
     go_wp2_with fail
     obtain ⟨w1, hw1⟩ : ∃ w1, w1 = ((W.alloc (.cells #[.slice A0 n0 c0, .slice A1 n1 c1, .slice A2 n2 c2, .slice A3 n3 c3, .bool false, .int .i64 fu, .slice A6 n6 c6] 31)).alloc (.cells #[.int .i64 sys, .int .i64 ep] 35)).alloc (.cells #[.slice none 0 0, .slice none 0 0, .slice none 0 0, .slice none 0 0, .bool false, .int .i64 0, .slice none 0 0] 31) := ⟨_, rfl⟩
     obtain ⟨g0, gw, g1, hb1⟩ := three W (.cells #[.slice A0 n0 c0, .slice A1 n1 c1, .slice A2 n2 c2, .slice A3 n3 c3, .bool false, .int .i64 fu, .slice A6 n6 c6] 31) (.cells #[.int .i64 sys, .int .i64 ep] 35) (.cells #[.slice none 0 0, .slice none 0 0, .slice none 0 0, .slice none 0 0, .bool false, .int .i64 0, .slice none 0 0] 31)
     rw [← hw1] at g0 gw g1 hb1 ⊢
     obtain ⟨bx, hbx⟩ : ∃ bx, bx = W.heap.size := ⟨_, rfl⟩
     obtain ⟨bw, hbw⟩ : ∃ bw, bw = W.heap.size + 1 := ⟨_, rfl⟩
     obtain ⟨rb, hrb⟩ : ∃ rb, rb = W.heap.size + 1 + 1 := ⟨_, rfl⟩
     rw [← hrb] at g1 ⊢
     rw [← hbw] at gw ⊢
     rw [show (Value.pointer (some ⟨W.heap.size, 0, none⟩)) = .pointer (some ⟨bx, 0, none⟩) by rw [hbx]]
     rw [← hbx] at g0
     have hs1 : w1.heap.size = W.heap.size + 1 + 1 + 1 := by rw [hw1]; simp
     have LB := Aside0.mk (show W.heap.size ≤ bx ∧ W.heap.size ≤ bw ∧ W.heap.size ≤ rb ∧ bx ≠ rb ∧ bw ≠ rb ∧ bx ≠ bw ∧ bx < w1.heap.size ∧ rb < w1.heap.size ∧ bw < w1.heap.size from ⟨by omega, by omega, by omega, by omega, by omega, by omega, by omega, by omega, by omega⟩)
     have ne1 : bx ≠ rb := LB.out.2.2.2.1
     have ne2 : rb ≠ bx := fun e => ne1 e.symm
     have HBW := Aside0.mk hb1
     obtain ⟨k0, k1, k2, k3, k4, k5, k6⟩ := cells7 g0
     obtain ⟨z0, z1, z2, z3, z4, z5, z6⟩ := froz7 g0
     have y0 : w1.cell? ⟨bw, 0, none⟩ = some (.int .i64 sys) := by rw [blk_cell gw]; rfl
     have y1 : w1.cell? ⟨bw, 1, none⟩ = some (.int .i64 ep) := by rw [blk_cell gw]; rfl
     obtain ⟨r0, r1, r2, r3, r4, r5, r6⟩ := cells7 g1
     obtain ⟨s0, s1, s2, s3, s4, s5, s6⟩ := froz7 g1
     have G0 := Aside0.mk g0
     have GW := Aside0.mk gw
     have G1 := Aside0.mk g1
     clear g0 gw g1
     clear hw1 hb1 hbx hbw hrb hs1
     refine (HWR.out w1).mono ?_
     rintro e w2 ⟨rfl, hb⟩
     have g0 := blk_below G0.out hb
     have gw := blk_below GW.out hb
     have g1 := blk_below G1.out hb
     have hbw := HBW.out.trans (hb.mono HBW.out.size)
     have SZ12 : w1.heap.size ≤ w2.heap.size := hb.size
     clear k0 k1 k2 k3 k4 k5 k6 z0 z1 z2 z3 z4 z5 z6 y0 y1 r0 r1 r2 r3 r4 r5 r6 s0 s1 s2 s3 s4 s5 s6 G0 GW G1 HBW
     have HBW := Aside0.mk hbw
     obtain ⟨k0, k1, k2, k3, k4, k5, k6⟩ := cells7 g0
     obtain ⟨z0, z1, z2, z3, z4, z5, z6⟩ := froz7 g0
     have y0 : w2.cell? ⟨bw, 0, none⟩ = some (.int .i64 sys) := by rw [blk_cell gw]; rfl
     have y1 : w2.cell? ⟨bw, 1, none⟩ = some (.int .i64 ep) := by rw [blk_cell gw]; rfl
     obtain ⟨r0, r1, r2, r3, r4, r5, r6⟩ := cells7 g1
     obtain ⟨s0, s1, s2, s3, s4, s5, s6⟩ := froz7 g1
     have G0 := Aside0.mk g0
     have GW := Aside0.mk gw
     have G1 := Aside0.mk g1
     clear g0 gw g1
     clear hb hbw
     go_wp2_with fail
     refine (HFC.out w2 HBW.out).mono ?_
     rintro e w3 ⟨rfl, hb⟩
     have g0 := blk_below G0.out hb
     have gw := blk_below GW.out hb
     have g1 := blk_below G1.out hb
     have hbw := HBW.out.trans (hb.mono HBW.out.size)
     have SZ23 : w2.heap.size ≤ w3.heap.size := hb.size
     clear k0 k1 k2 k3 k4 k5 k6 z0 z1 z2 z3 z4 z5 z6 y0 y1 r0 r1 r2 r3 r4 r5 r6 s0 s1 s2 s3 s4 s5 s6 G0 GW G1 HBW
     have HBW := Aside0.mk hbw
     obtain ⟨k0, k1, k2, k3, k4, k5, k6⟩ := cells7 g0
     obtain ⟨z0, z1, z2, z3, z4, z5, z6⟩ := froz7 g0
     have y0 : w3.cell? ⟨bw, 0, none⟩ = some (.int .i64 sys) := by rw [blk_cell gw]; rfl
     have y1 : w3.cell? ⟨bw, 1, none⟩ = some (.int .i64 ep) := by rw [blk_cell gw]; rfl
     obtain ⟨r0, r1, r2, r3, r4, r5, r6⟩ := cells7 g1
     obtain ⟨s0, s1, s2, s3, s4, s5, s6⟩ := froz7 g1
     have G0 := Aside0.mk g0
     have GW := Aside0.mk gw
     have G1 := Aside0.mk g1
     clear g0 gw g1
     clear hb hbw
     have SZ13 : w1.heap.size ≤ w3.heap.size := Nat.le_trans SZ12 SZ23
     go_wp2_with fail
     refine (use_ref (ok := fun k => ok k ∧ k < W.heap.size) ((HR.out.mono (ok' := fun k => ok k ∧ k < W.heap.size) (fun k hk hlt => ⟨hk, hlt⟩)).below HBW.out) HG.out hk).mono ?_
     rintro e w4 ⟨v4, rfl, hR4, hb⟩
     rw [HUB.out]
     have HW13 := Aside0.mk (show w1.heap.size ≤ w3.heap.size from SZ13)
     obtain ⟨E0, E1, E2, E3, E6, d0, d1, d2, d3, d6, gl, gu, gs, hRC⟩ := hR4.open_
     obtain rfl := hRC.hv
     obtain ⟨S2, hS2⟩ : ∃ S2, S2 = (useS S).2 := ⟨_, rfl⟩
     rw [← hS2] at hR4 ⊢
     have HS2 := Aside0.mk hS2
     clear hS2
     obtain ⟨m0, hm0⟩ : ∃ m, m = S2.stable.length := ⟨_, rfl⟩
     obtain ⟨m1, hm1⟩ : ∃ m, m = S2.old.length := ⟨_, rfl⟩
     obtain ⟨m2, hm2⟩ : ∃ m, m = S2.pend.length := ⟨_, rfl⟩
     obtain ⟨m3, hm3⟩ : ∃ m, m = gl.length := ⟨_, rfl⟩
     obtain ⟨m6, hm6⟩ : ∃ m, m = gs.length := ⟨_, rfl⟩
     obtain ⟨ma, hma⟩ : ∃ m, m = S2.failed := ⟨_, rfl⟩
     rw [← hm0, ← hm1, ← hm2, ← hm3, ← hm6, ← hma]
     rw [← hm0, ← hm1, ← hm2, ← hm3, ← hm6, ← hma] at hR4
     have HR4 := Aside0.mk hR4
     clear hRC hm0 hm1 hm2 hm3 hm6 hma hR4
     have g0 := blk_below G0.out hb
     have gw := blk_below GW.out hb
     have g1 := blk_below G1.out hb
     have hbw := HBW.out.trans (hb.mono HBW.out.size)
     have SZ34 : w3.heap.size ≤ w4.heap.size := hb.size
     clear k0 k1 k2 k3 k4 k5 k6 z0 z1 z2 z3 z4 z5 z6 y0 y1 r0 r1 r2 r3 r4 r5 r6 s0 s1 s2 s3 s4 s5 s6 G0 GW G1 HBW
     have HBW := Aside0.mk hbw
     obtain ⟨k0, k1, k2, k3, k4, k5, k6⟩ := cells7 g0
     obtain ⟨z0, z1, z2, z3, z4, z5, z6⟩ := froz7 g0
     have y0 : w4.cell? ⟨bw, 0, none⟩ = some (.int .i64 sys) := by rw [blk_cell gw]; rfl
     have y1 : w4.cell? ⟨bw, 1, none⟩ = some (.int .i64 ep) := by rw [blk_cell gw]; rfl
     obtain ⟨r0, r1, r2, r3, r4, r5, r6⟩ := cells7 g1
     obtain ⟨s0, s1, s2, s3, s4, s5, s6⟩ := froz7 g1
     have G0 := Aside0.mk g0
     have GW := Aside0.mk gw
     have G1 := Aside0.mk g1
     clear g0 gw g1
     clear hb hbw
     go_upto_region 8 with (fail)
     obtain ⟨w5, hw5⟩ : ∃ w5, w5 = set7 w4 bx (.slice E0 m0 d0) (.slice E1 m1 d1) (.slice E2 m2 d2) (.slice E3 m3 d3) (.bool ma) (.int .i64 gu) (.slice E6 m6 d6) := ⟨_, rfl⟩
     have hf5 : ∀ k, k ≠ bx → w5.heap[k]? = w4.heap[k]? := fun k hk => by rw [hw5]; exact set7_far w4 bx (.slice E0 m0 d0) (.slice E1 m1 d1) (.slice E2 m2 d2) (.slice E3 m3 d3) (.bool ma) (.int .i64 gu) (.slice E6 m6 d6) k hk
     have g0 : w5.heap[bx]? = some (.cells #[.slice E0 m0 d0, .slice E1 m1 d1, .slice E2 m2 d2, .slice E3 m3 d3, .bool ma, .int .i64 gu, .slice E6 m6 d6] 31 (0, 0)) := by rw [hw5]; exact set7_blk G0.out (.slice E0 m0 d0) (.slice E1 m1 d1) (.slice E2 m2 d2) (.slice E3 m3 d3) (.bool ma) (.int .i64 gu) (.slice E6 m6 d6)
     have g1 := (hf5 rb ne2).trans G1.out
     have gw := (hf5 bw (fun e => LB.out.2.2.2.2.2.1 e.symm)).trans GW.out
     have hb5 : Below W.heap.size W w5 := by rw [hw5]; exact set7_below HBW.out LB.out.1 (.slice E0 m0 d0) (.slice E1 m1 d1) (.slice E2 m2 d2) (.slice E3 m3 d3) (.bool ma) (.int .i64 gu) (.slice E6 m6 d6)
     have hs5 : w5.heap.size = w4.heap.size := by rw [hw5]; exact set7_size w4 bx (.slice E0 m0 d0) (.slice E1 m1 d1) (.slice E2 m2 d2) (.slice E3 m3 d3) (.bool ma) (.int .i64 gu) (.slice E6 m6 d6)
     have HF5 := Aside0.mk hf5
     have HS5 := Aside0.mk hs5
     have HOK := Aside0.mk (show ∀ k, ((ok k ∧ k < W.heap.size) ∨ w3.heap.size ≤ k) → k ≠ bx ∧ k ≠ rb ∧ (ok k ∨ W.heap.size ≤ k) from fun k hk => by
      obtain ⟨l1, l2, l3, l4, l5, l6, l7, l8, l9⟩ := LB.out
      have l10 := HW13.out
      rcases hk with hk | hk
      ·exact ⟨by omega, by omega, Or.inl hk.1⟩
      ·exact ⟨by omega, by omega, Or.inr (by omega)⟩)
     unfold set7 at hw5
     rw [← hw5]
     clear hw5 hf5 hs5 k0 k1 k2 k3 k4 k5 k6 z0 z1 z2 z3 z4 z5 z6 y0 y1 r0 r1 r2 r3 r4 r5 r6 s0 s1 s2 s3 s4 s5 s6 G0 GW G1 HBW
     have HBW := Aside0.mk hb5
     obtain ⟨k0, k1, k2, k3, k4, k5, k6⟩ := cells7 g0
     obtain ⟨z0, z1, z2, z3, z4, z5, z6⟩ := froz7 g0
     have y0 : w5.cell? ⟨bw, 0, none⟩ = some (.int .i64 sys) := by rw [blk_cell gw]; rfl
     have y1 : w5.cell? ⟨bw, 1, none⟩ = some (.int .i64 ep) := by rw [blk_cell gw]; rfl
     obtain ⟨r0, r1, r2, r3, r4, r5, r6⟩ := cells7 g1
     obtain ⟨s0, s1, s2, s3, s4, s5, s6⟩ := froz7 g1
     have G0 := Aside0.mk g0
     have GW := Aside0.mk gw
     have G1 := Aside0.mk g1
     clear g0 gw g1
     clear hb5
     go_wp2_with fail
     have hR5 := HR4.out.step (W1 := w5) (fun k hk _ => HF5.out k (HOK.out k hk).1)
     have hend := end_ref hR5 (by rw [HS2.out]; exact HGU.out.fine) hk (isOf sys) sys (fun w => by have h1 := HBO.out.1; have h2 : decide (sys = 0) = false := decide_eq_false (by omega); rw [h2, Bool.false_or]; rfl) none 0 [] (List.replicate S2.pend.length 140) (Kd.C_nil _ _) (Nat.le_refl _) (by decide) true (fun _ => rfl) (fun k hk => by unfold numB bytesAt; rw [List.getElem?_replicate, if_pos hk, if_pos rfl]; rfl)
     have HEND := Aside0.mk (show Calls Try.prog 30 #[.agg #[.slice E0 m0 d0, .slice E1 m1 d1, .slice E2 m2 d2, .slice E3 m3 d3, .bool ma, .int .i64 gu, .slice E6 m6 d6], .int .i64 sys, .slice none 0 0, .bool true] w5 fun e W' => RChPost (fun k => (ok k ∧ k < W.heap.size) ∨ w3.heap.size ≤ k) (finishS (isOf sys) (List.replicate S2.pend.length 140) S2) w5 e W' from hend)
     clear hR5 hend
     refine HEND.out.mono ?_
     rintro e w6 ⟨v6, rfl, hR6, hb⟩
     obtain ⟨X0, X1, X2, X3, X6, b0, b1, b2, b3, b6, xl, xu, xs, hRX⟩ := hR6.open_
     obtain rfl := hRX.hv
     obtain ⟨S3, hS3⟩ : ∃ S3, S3 = finishS (isOf sys) (List.replicate S2.pend.length 140) S2 := ⟨_, rfl⟩
     rw [← hS3] at hR6
     rw [← hS3]
     have HS3 := Aside0.mk hS3
     have HR6 := Aside0.mk hR6
     clear hRX hR6 hS3
     have g0 := blk_below G0.out hb
     have gw := blk_below GW.out hb
     have g1 := blk_below G1.out hb
     have hbw := HBW.out.trans (hb.mono HBW.out.size)
     have SZ56 : w5.heap.size ≤ w6.heap.size := hb.size
     clear k0 k1 k2 k3 k4 k5 k6 z0 z1 z2 z3 z4 z5 z6 y0 y1 r0 r1 r2 r3 r4 r5 r6 s0 s1 s2 s3 s4 s5 s6 G0 GW G1 HBW
     have HBW := Aside0.mk hbw
     obtain ⟨k0, k1, k2, k3, k4, k5, k6⟩ := cells7 g0
     obtain ⟨z0, z1, z2, z3, z4, z5, z6⟩ := froz7 g0
     have y0 : w6.cell? ⟨bw, 0, none⟩ = some (.int .i64 sys) := by rw [blk_cell gw]; rfl
     have y1 : w6.cell? ⟨bw, 1, none⟩ = some (.int .i64 ep) := by rw [blk_cell gw]; rfl
     obtain ⟨r0, r1, r2, r3, r4, r5, r6⟩ := cells7 g1
     obtain ⟨s0, s1, s2, s3, s4, s5, s6⟩ := froz7 g1
     have G0 := Aside0.mk g0
     have GW := Aside0.mk gw
     have G1 := Aside0.mk g1
     clear g0 gw g1
     clear hb hbw
     go_wp2_with fail
     have hbC := set7_below HBW.out LB.out.2.2.1 (.slice X0 S3.stable.length b0) (.slice X1 S3.old.length b1) (.slice X2 S3.pend.length b2) (.slice X3 xl.length b3) (.bool S3.failed) (.int .i64 xu) (.slice X6 xs.length b6)
     refine bodyPost_ret (results_ct rfl _ _ rb 31 #[.slice X0 S3.stable.length b0, .slice X1 S3.old.length b1, .slice X2 S3.pend.length b2, .slice X3 xl.length b3, .bool S3.failed, .int .i64 xu, .slice X6 xs.length b6] (0, 0) _ rfl (set7_blk G1.out (.slice X0 S3.stable.length b0) (.slice X1 S3.old.length b1) (.slice X2 S3.pend.length b2) (.slice X3 xl.length b3) (.bool S3.failed) (.int .i64 xu) (.slice X6 xs.length b6)) Try.underlying31 rfl (by kernel_rfl)) rfl ?_
     refine ⟨_, rfl, ?_, hbC⟩
     have hh := (HR6.out.step (fun k hk _ => set7_far w6 rb (.slice X0 S3.stable.length b0) (.slice X1 S3.old.length b1) (.slice X2 S3.pend.length b2) (.slice X3 xl.length b3) (.bool S3.failed) (.int .i64 xu) (.slice X6 xs.length b6) k (hk.elim (fun hk => (HOK.out k hk).2.1) (fun hk => by have h1 := LB.out.2.2.2.2.2.2.2.1; have h2 := HW13.out; have h3 := HS5.out; have h4 : w3.heap.size ≤ w4.heap.size := SZ34; omega)))).mono (ok' := fun k => ok k ∨ W.heap.size ≤ k) (fun k hk _ => hk.elim (fun hk => (HOK.out k hk).2.2) (fun hk => Or.inr (by have h1 := LB.out.2.2.2.2.2.2.2.1; have h2 := HW13.out; have h3 := HS5.out; have h4 : w3.heap.size ≤ w4.heap.size := SZ34; have h5 := LB.out.1; have h6 := LB.out.2.2.2.2.2.2.1; omega)))
     show RefIs _ _ _ (finishS (isOf sys) (List.replicate (useS S).2.pend.length 140) (useS S).2)
     rw [← HS2.out, ← HS3.out]
     exact hh
end
end Go.Proofs.Ytflajmgichdhhaa.PG
namespace Go.Proofs.Ytflajmgichdhhaa.PG
open Go.RowKit Go.Proofs.YtflajmgichdhhaaW.PrintWords Go.Proofs.YtflajmgichdhhaaW.PrintLast Go.Proofs.YtflajmgichdhhaaW.PrintMore
set_option linter.unusedVariables false
set_option linter.unusedSimpArgs false
theorem one99 {w : World} {g : Nat} {x : S99} (hb : w.heap[g]? = some (.cells #[.int .i64 x.f0, .int .i64 x.f1, .string x.f2] 99 (0, 0))) : Kd.C k99 w (some ⟨g, 0, none⟩) 1 [x] := by
 refine ⟨rfl, by decide, fun _ => ⟨_, rfl, fun j p hj => ?_⟩⟩
 cases j with
 | succ j => simp at hj
 | zero =>
  cases hj
  refine ⟨_, rfl, k99_mk w x, fun q u hu => ?_⟩
  have : Addr.add ⟨g, 0, none⟩ (0 * k99.sz + q) = ⟨g, q, none⟩ := by simp [Addr.add]; intro hz; exact hz.symm
  rw [this, blk_cell hb]
  simpa using hu
section
variable {W : World} {ok : Nat → Prop} {v : Value} {S : DevS}
set_option maxRecDepth 100000 in
set_option maxHeartbeats 4000000 in
theorem dowrite_ref {k : Nat} (hR : RefIs W ok v S) (hG : Good k S) (hk : k ≤ 1000000) (sys ep sec : Int) (d : ByteArray) : Calls Try.prog 28 #[v, .agg #[.int .i64 sys, .int .i64 ep], .int .i64 sec, .string d] W fun e W' => RPost2 ok (writeS S sys ep sec d).1 (writeS S sys ep sec d).2 W e W' := by
 have HG := Aside0.mk hG
 clear hG
 obtain ⟨v0, v1, v2, v3, v6, fl, fu, sv, hA⟩ := id hR
 obtain rfl := hA.hv
 obtain ⟨A0, c0, e0, hl0, hF0⟩ := hA.h0
 obtain ⟨A1, c1, e1, hl1, hF1⟩ := hA.h1
 obtain ⟨A2, c2, e2, hl2, hF2⟩ := hA.h2
 obtain ⟨A3, c3, e3, hl3, hF3⟩ := hA.h3
 obtain ⟨A6, c6, e6, hl6, hF6⟩ := hA.h6
 subst e0 e1 e2 e3 e6
 have HR := Aside0.mk hR
 have HA := Aside0.mk hA
 have HF0 := Aside0.mk hF0
 have HF1 := Aside0.mk hF1
 have HF2 := Aside0.mk hF2
 have HF3 := Aside0.mk hF3
 obtain ⟨n0, hn0⟩ : ∃ n0, n0 = S.stable.length := ⟨_, rfl⟩
 obtain ⟨n1, hn1⟩ : ∃ n1, n1 = S.old.length := ⟨_, rfl⟩
 obtain ⟨n2, hn2⟩ : ∃ n2, n2 = S.pend.length := ⟨_, rfl⟩
 obtain ⟨n3, hn3⟩ : ∃ n3, n3 = fl.length := ⟨_, rfl⟩
 obtain ⟨n6, hn6⟩ : ∃ n6, n6 = sv.length := ⟨_, rfl⟩
 obtain ⟨fa, hfa⟩ : ∃ fa, fa = S.failed := ⟨_, rfl⟩
 have EQ := Aside0.mk (show n0 = S.stable.length ∧ n1 = S.old.length ∧ n2 = S.pend.length ∧ n3 = fl.length ∧ n6 = sv.length ∧ fa = S.failed from ⟨hn0, hn1, hn2, hn3, hn6, hfa⟩)
 rw [← hn0, ← hn1, ← hn2, ← hn3, ← hn6, ← hfa]
 rw [← hn0, ← hn1, ← hn2, ← hn3, ← hn6, ← hfa] at HR
 clear hR hA hF0 hF1 hF2 hF3 hF6 hl0 hl1 hl2 hl3 hl6 hn0 hn1 hn2 hn3 hn6 hfa
 have HT := Aside0.mk (fun (w : World) => show Calls Try.prog 54 #[.agg #[.slice A0 n0 c0, .slice A1 n1 c1, .slice A2 n2 c2, .slice A3 n3 c3, .bool fa, .int .i64 fu, .slice A6 n6 c6], .int .i64 sec] w fun e W' => e = .returned (.bool (decide (0 ≤ sec ∧ sec < (n0 : Int)))) ∧ Below w.heap.size w W' from there_ref w sec)
 have HEQ0 := Aside0.mk (show n0 = S.stable.length from EQ.out.1)
 unfold RPost2
 cases hpb : plainB sys ep with
 | false =>
  have hu : writeS S sys ep sec d = (1, S) := by unfold writeS; rw [hpb, if_neg (fun z => by cases z.1)]
  rw [hu]
  have HWR := Aside0.mk (fun w => dasdref03_writer.calls sys ep false w (by rw [writer_f, hpb]))
  clear hu hpb
  go_enter Try.func28, Try.ntmps28
  go_wp2_with fail
  obtain ⟨w1, hw1⟩ : ∃ w1, w1 = ((W.alloc (.cells #[.slice A0 n0 c0, .slice A1 n1 c1, .slice A2 n2 c2, .slice A3 n3 c3, .bool fa, .int .i64 fu, .slice A6 n6 c6] 31)).alloc (.cells #[.int .i64 sys, .int .i64 ep] 35)).alloc (.cells #[.slice none 0 0, .slice none 0 0, .slice none 0 0, .slice none 0 0, .bool false, .int .i64 0, .slice none 0 0] 31) := ⟨_, rfl⟩
  obtain ⟨g0, gw, g1, hb1⟩ := three W (.cells #[.slice A0 n0 c0, .slice A1 n1 c1, .slice A2 n2 c2, .slice A3 n3 c3, .bool fa, .int .i64 fu, .slice A6 n6 c6] 31) (.cells #[.int .i64 sys, .int .i64 ep] 35) (.cells #[.slice none 0 0, .slice none 0 0, .slice none 0 0, .slice none 0 0, .bool false, .int .i64 0, .slice none 0 0] 31)
  rw [← hw1] at g0 gw g1 hb1 ⊢
  obtain ⟨bx, hbx⟩ : ∃ bx, bx = W.heap.size := ⟨_, rfl⟩
  obtain ⟨bw, hbw⟩ : ∃ bw, bw = W.heap.size + 1 := ⟨_, rfl⟩
  obtain ⟨rb, hrb⟩ : ∃ rb, rb = W.heap.size + 1 + 1 := ⟨_, rfl⟩
  rw [← hrb] at g1 ⊢
  rw [← hbw] at gw ⊢
  rw [show (Value.pointer (some ⟨W.heap.size, 0, none⟩)) = .pointer (some ⟨bx, 0, none⟩) by rw [hbx]]
  rw [← hbx] at g0
  have hs1 : w1.heap.size = W.heap.size + 1 + 1 + 1 := by rw [hw1]; simp
  have LB := Aside0.mk (show W.heap.size ≤ bx ∧ W.heap.size ≤ bw ∧ W.heap.size ≤ rb ∧ bx ≠ rb ∧ bw ≠ rb ∧ bx ≠ bw ∧ bx < w1.heap.size ∧ rb < w1.heap.size ∧ bw < w1.heap.size from ⟨by omega, by omega, by omega, by omega, by omega, by omega, by omega, by omega, by omega⟩)
  have ne1 : bx ≠ rb := LB.out.2.2.2.1
  have ne2 : rb ≠ bx := fun e => ne1 e.symm
  have HBW := Aside0.mk hb1
  obtain ⟨k0, k1, k2, k3, k4, k5, k6⟩ := cells7 g0
  obtain ⟨z0, z1, z2, z3, z4, z5, z6⟩ := froz7 g0
  have y0 : w1.cell? ⟨bw, 0, none⟩ = some (.int .i64 sys) := by rw [blk_cell gw]; rfl
  have y1 : w1.cell? ⟨bw, 1, none⟩ = some (.int .i64 ep) := by rw [blk_cell gw]; rfl
  obtain ⟨r0, r1, r2, r3, r4, r5, r6⟩ := cells7 g1
  obtain ⟨s0, s1, s2, s3, s4, s5, s6⟩ := froz7 g1
  have G0 := Aside0.mk g0
  have GW := Aside0.mk gw
  have G1 := Aside0.mk g1
  clear g0 gw g1
  clear hw1 hb1 hbx hbw hrb hs1
  refine (HWR.out w1).mono ?_
  rintro e w2 ⟨rfl, hb⟩
  have g0 := blk_below G0.out hb
  have gw := blk_below GW.out hb
  have g1 := blk_below G1.out hb
  have hbw := HBW.out.trans (hb.mono HBW.out.size)
  have SZ12 : w1.heap.size ≤ w2.heap.size := hb.size
  clear k0 k1 k2 k3 k4 k5 k6 z0 z1 z2 z3 z4 z5 z6 y0 y1 r0 r1 r2 r3 r4 r5 r6 s0 s1 s2 s3 s4 s5 s6 G0 GW G1 HBW
  have HBW := Aside0.mk hbw
  obtain ⟨k0, k1, k2, k3, k4, k5, k6⟩ := cells7 g0
  obtain ⟨z0, z1, z2, z3, z4, z5, z6⟩ := froz7 g0
  have y0 : w2.cell? ⟨bw, 0, none⟩ = some (.int .i64 sys) := by rw [blk_cell gw]; rfl
  have y1 : w2.cell? ⟨bw, 1, none⟩ = some (.int .i64 ep) := by rw [blk_cell gw]; rfl
  obtain ⟨r0, r1, r2, r3, r4, r5, r6⟩ := cells7 g1
  obtain ⟨s0, s1, s2, s3, s4, s5, s6⟩ := froz7 g1
  have G0 := Aside0.mk g0
  have GW := Aside0.mk gw
  have G1 := Aside0.mk g1
  clear g0 gw g1
  clear hb hbw
  go_wp2_with fail
  have hbC := set7_below HBW.out LB.out.2.2.1 (.slice A0 n0 c0) (.slice A1 n1 c1) (.slice A2 n2 c2) (.slice A3 n3 c3) (.bool fa) (.int .i64 fu) (.slice A6 n6 c6)
  refine bodyPost_ret (results_ct rfl _ _ rb 31 #[.slice A0 n0 c0, .slice A1 n1 c1, .slice A2 n2 c2, .slice A3 n3 c3, .bool fa, .int .i64 fu, .slice A6 n6 c6] (0, 0) _ rfl (set7_blk G1.out (.slice A0 n0 c0) (.slice A1 n1 c1) (.slice A2 n2 c2) (.slice A3 n3 c3) (.bool fa) (.int .i64 fu) (.slice A6 n6 c6)) Try.underlying31 rfl (by kernel_rfl)) rfl ?_
  refine ⟨_, rfl, ?_, hbC⟩
  exact (HR.out.below hbC).mono (fun k hk _ => Or.inl hk)
 | true =>
  have hbo : 1 ≤ sys ∧ sys ≤ 4 ∧ 0 ≤ ep ∧ ep ≤ 1099511627776 := of_decide_eq_true hpb
  have HWR := Aside0.mk (fun w => dasdref03_writer.calls sys ep true w (by rw [writer_f, hpb]))
  have HPB := Aside0.mk hpb
  have HBO := Aside0.mk hbo
  have EFA := Aside0.mk (show S.failed = fa from EQ.out.2.2.2.2.2.symm)
  clear hpb hbo
  by_cases hd : d.size = 140
  ·have hd2 : ((d.size : Int) != 140) = false := by rw [hd]; rfl
   by_cases hin : 0 ≤ sec ∧ sec < (n0 : Int)
   ·rw [decide_eq_true hin] at HT
    have HSY := Aside0.mk (show writeS S sys ep sec d = (if (admitS S sys ep).1 = 0 then (0, pushS (admitS S sys ep).2 ⟨sys, sec, d⟩) else admitS S sys ep) by unfold writeS; rw [if_pos ⟨HPB.out, hd⟩, if_pos ⟨hin.1, by rw [← HEQ0.out]; exact hin.2⟩])
    clear hd hin
    cases fa with
    | true =>
     have hu : writeS S sys ep sec d = (10, S) := by
      have ha : admitS S sys ep = (10, S) := by unfold admitS; rw [if_pos EFA.out]
      rw [HSY.out, ha, if_neg (by show ¬ (10 : Int) = 0; decide)]
     rw [hu]
     clear hu
     go_enter Try.func28, Try.ntmps28
     go_wp2_with fail
     obtain ⟨w1, hw1⟩ : ∃ w1, w1 = ((W.alloc (.cells #[.slice A0 n0 c0, .slice A1 n1 c1, .slice A2 n2 c2, .slice A3 n3 c3, .bool true, .int .i64 fu, .slice A6 n6 c6] 31)).alloc (.cells #[.int .i64 sys, .int .i64 ep] 35)).alloc (.cells #[.slice none 0 0, .slice none 0 0, .slice none 0 0, .slice none 0 0, .bool false, .int .i64 0, .slice none 0 0] 31) := ⟨_, rfl⟩
     obtain ⟨g0, gw, g1, hb1⟩ := three W (.cells #[.slice A0 n0 c0, .slice A1 n1 c1, .slice A2 n2 c2, .slice A3 n3 c3, .bool true, .int .i64 fu, .slice A6 n6 c6] 31) (.cells #[.int .i64 sys, .int .i64 ep] 35) (.cells #[.slice none 0 0, .slice none 0 0, .slice none 0 0, .slice none 0 0, .bool false, .int .i64 0, .slice none 0 0] 31)
     rw [← hw1] at g0 gw g1 hb1 ⊢
     obtain ⟨bx, hbx⟩ : ∃ bx, bx = W.heap.size := ⟨_, rfl⟩
     obtain ⟨bw, hbw⟩ : ∃ bw, bw = W.heap.size + 1 := ⟨_, rfl⟩
     obtain ⟨rb, hrb⟩ : ∃ rb, rb = W.heap.size + 1 + 1 := ⟨_, rfl⟩
     rw [← hrb] at g1 ⊢
     rw [← hbw] at gw ⊢
     rw [show (Value.pointer (some ⟨W.heap.size, 0, none⟩)) = .pointer (some ⟨bx, 0, none⟩) by rw [hbx]]
     rw [← hbx] at g0
     have hs1 : w1.heap.size = W.heap.size + 1 + 1 + 1 := by rw [hw1]; simp
     have LB := Aside0.mk (show W.heap.size ≤ bx ∧ W.heap.size ≤ bw ∧ W.heap.size ≤ rb ∧ bx ≠ rb ∧ bw ≠ rb ∧ bx ≠ bw ∧ bx < w1.heap.size ∧ rb < w1.heap.size ∧ bw < w1.heap.size from ⟨by omega, by omega, by omega, by omega, by omega, by omega, by omega, by omega, by omega⟩)
     have ne1 : bx ≠ rb := LB.out.2.2.2.1
     have ne2 : rb ≠ bx := fun e => ne1 e.symm
     have HBW := Aside0.mk hb1
     obtain ⟨k0, k1, k2, k3, k4, k5, k6⟩ := cells7 g0
     obtain ⟨z0, z1, z2, z3, z4, z5, z6⟩ := froz7 g0
     have y0 : w1.cell? ⟨bw, 0, none⟩ = some (.int .i64 sys) := by rw [blk_cell gw]; rfl
     have y1 : w1.cell? ⟨bw, 1, none⟩ = some (.int .i64 ep) := by rw [blk_cell gw]; rfl
     obtain ⟨r0, r1, r2, r3, r4, r5, r6⟩ := cells7 g1
     obtain ⟨s0, s1, s2, s3, s4, s5, s6⟩ := froz7 g1
     have G0 := Aside0.mk g0
     have GW := Aside0.mk gw
     have G1 := Aside0.mk g1
     clear g0 gw g1
     clear hw1 hb1 hbx hbw hrb hs1
     refine (HWR.out w1).mono ?_
     rintro e w2 ⟨rfl, hb⟩
     have g0 := blk_below G0.out hb
     have gw := blk_below GW.out hb
     have g1 := blk_below G1.out hb
     have hbw := HBW.out.trans (hb.mono HBW.out.size)
     have SZ12 : w1.heap.size ≤ w2.heap.size := hb.size
     clear k0 k1 k2 k3 k4 k5 k6 z0 z1 z2 z3 z4 z5 z6 y0 y1 r0 r1 r2 r3 r4 r5 r6 s0 s1 s2 s3 s4 s5 s6 G0 GW G1 HBW
     have HBW := Aside0.mk hbw
     obtain ⟨k0, k1, k2, k3, k4, k5, k6⟩ := cells7 g0
     obtain ⟨z0, z1, z2, z3, z4, z5, z6⟩ := froz7 g0
     have y0 : w2.cell? ⟨bw, 0, none⟩ = some (.int .i64 sys) := by rw [blk_cell gw]; rfl
     have y1 : w2.cell? ⟨bw, 1, none⟩ = some (.int .i64 ep) := by rw [blk_cell gw]; rfl
     obtain ⟨r0, r1, r2, r3, r4, r5, r6⟩ := cells7 g1
     obtain ⟨s0, s1, s2, s3, s4, s5, s6⟩ := froz7 g1
     have G0 := Aside0.mk g0
     have GW := Aside0.mk gw
     have G1 := Aside0.mk g1
     clear g0 gw g1
     clear hb hbw
     go_wp2_with fail
     refine (HT.out w2).mono ?_
     rintro e w3 ⟨rfl, hb⟩
     have g0 := blk_below G0.out hb
     have gw := blk_below GW.out hb
     have g1 := blk_below G1.out hb
     have hbw := HBW.out.trans (hb.mono HBW.out.size)
     have SZ23 : w2.heap.size ≤ w3.heap.size := hb.size
     clear k0 k1 k2 k3 k4 k5 k6 z0 z1 z2 z3 z4 z5 z6 y0 y1 r0 r1 r2 r3 r4 r5 r6 s0 s1 s2 s3 s4 s5 s6 G0 GW G1 HBW
     have HBW := Aside0.mk hbw
     obtain ⟨k0, k1, k2, k3, k4, k5, k6⟩ := cells7 g0
     obtain ⟨z0, z1, z2, z3, z4, z5, z6⟩ := froz7 g0
     have y0 : w3.cell? ⟨bw, 0, none⟩ = some (.int .i64 sys) := by rw [blk_cell gw]; rfl
     have y1 : w3.cell? ⟨bw, 1, none⟩ = some (.int .i64 ep) := by rw [blk_cell gw]; rfl
     obtain ⟨r0, r1, r2, r3, r4, r5, r6⟩ := cells7 g1
     obtain ⟨s0, s1, s2, s3, s4, s5, s6⟩ := froz7 g1
     have G0 := Aside0.mk g0
     have GW := Aside0.mk gw
     have G1 := Aside0.mk g1
     clear g0 gw g1
     clear hb hbw
     go_wp2_with fail
     have hbC := set7_below HBW.out LB.out.2.2.1 (.slice A0 n0 c0) (.slice A1 n1 c1) (.slice A2 n2 c2) (.slice A3 n3 c3) (.bool true) (.int .i64 fu) (.slice A6 n6 c6)
     refine bodyPost_ret (results_ct rfl _ _ rb 31 #[.slice A0 n0 c0, .slice A1 n1 c1, .slice A2 n2 c2, .slice A3 n3 c3, .bool true, .int .i64 fu, .slice A6 n6 c6] (0, 0) _ rfl (set7_blk G1.out (.slice A0 n0 c0) (.slice A1 n1 c1) (.slice A2 n2 c2) (.slice A3 n3 c3) (.bool true) (.int .i64 fu) (.slice A6 n6 c6)) Try.underlying31 rfl (by kernel_rfl)) rfl ?_
     refine ⟨_, rfl, ?_, hbC⟩
     exact (HR.out.below hbC).mono (fun k hk _ => Or.inl hk)
    | false =>
     have HFC := Aside0.mk (fun (w : World) (hb : Below W.heap.size W w) => fenced_ref (HR.out.below hb) sys ep HBO.out.1 HBO.out.2.1 HBO.out.2.2.1 HBO.out.2.2.2)
     cases hfe : fencedS S sys ep with
     | true =>
      have hu : writeS S sys ep sec d = (13, S) := by
       have ha : admitS S sys ep = (13, S) := by unfold admitS; rw [if_neg (by rw [EFA.out]; simp), if_pos hfe]
       rw [HSY.out, ha, if_neg (by show ¬ (13 : Int) = 0; decide)]
      rw [hu]
      rw [hfe] at HFC
      clear hu hfe
      go_enter Try.func28, Try.ntmps28
      go_wp2_with fail
      obtain ⟨w1, hw1⟩ : ∃ w1, w1 = ((W.alloc (.cells #[.slice A0 n0 c0, .slice A1 n1 c1, .slice A2 n2 c2, .slice A3 n3 c3, .bool false, .int .i64 fu, .slice A6 n6 c6] 31)).alloc (.cells #[.int .i64 sys, .int .i64 ep] 35)).alloc (.cells #[.slice none 0 0, .slice none 0 0, .slice none 0 0, .slice none 0 0, .bool false, .int .i64 0, .slice none 0 0] 31) := ⟨_, rfl⟩
      obtain ⟨g0, gw, g1, hb1⟩ := three W (.cells #[.slice A0 n0 c0, .slice A1 n1 c1, .slice A2 n2 c2, .slice A3 n3 c3, .bool false, .int .i64 fu, .slice A6 n6 c6] 31) (.cells #[.int .i64 sys, .int .i64 ep] 35) (.cells #[.slice none 0 0, .slice none 0 0, .slice none 0 0, .slice none 0 0, .bool false, .int .i64 0, .slice none 0 0] 31)
      rw [← hw1] at g0 gw g1 hb1 ⊢
      obtain ⟨bx, hbx⟩ : ∃ bx, bx = W.heap.size := ⟨_, rfl⟩
      obtain ⟨bw, hbw⟩ : ∃ bw, bw = W.heap.size + 1 := ⟨_, rfl⟩
      obtain ⟨rb, hrb⟩ : ∃ rb, rb = W.heap.size + 1 + 1 := ⟨_, rfl⟩
      rw [← hrb] at g1 ⊢
      rw [← hbw] at gw ⊢
      rw [show (Value.pointer (some ⟨W.heap.size, 0, none⟩)) = .pointer (some ⟨bx, 0, none⟩) by rw [hbx]]
      rw [← hbx] at g0
      have hs1 : w1.heap.size = W.heap.size + 1 + 1 + 1 := by rw [hw1]; simp
      have LB := Aside0.mk (show W.heap.size ≤ bx ∧ W.heap.size ≤ bw ∧ W.heap.size ≤ rb ∧ bx ≠ rb ∧ bw ≠ rb ∧ bx ≠ bw ∧ bx < w1.heap.size ∧ rb < w1.heap.size ∧ bw < w1.heap.size from ⟨by omega, by omega, by omega, by omega, by omega, by omega, by omega, by omega, by omega⟩)
      have ne1 : bx ≠ rb := LB.out.2.2.2.1
      have ne2 : rb ≠ bx := fun e => ne1 e.symm
      have HBW := Aside0.mk hb1
      obtain ⟨k0, k1, k2, k3, k4, k5, k6⟩ := cells7 g0
      obtain ⟨z0, z1, z2, z3, z4, z5, z6⟩ := froz7 g0
      have y0 : w1.cell? ⟨bw, 0, none⟩ = some (.int .i64 sys) := by rw [blk_cell gw]; rfl
      have y1 : w1.cell? ⟨bw, 1, none⟩ = some (.int .i64 ep) := by rw [blk_cell gw]; rfl
      obtain ⟨r0, r1, r2, r3, r4, r5, r6⟩ := cells7 g1
      obtain ⟨s0, s1, s2, s3, s4, s5, s6⟩ := froz7 g1
      have G0 := Aside0.mk g0
      have GW := Aside0.mk gw
      have G1 := Aside0.mk g1
      clear g0 gw g1
      clear hw1 hb1 hbx hbw hrb hs1
      refine (HWR.out w1).mono ?_
      rintro e w2 ⟨rfl, hb⟩
      have g0 := blk_below G0.out hb
      have gw := blk_below GW.out hb
      have g1 := blk_below G1.out hb
      have hbw := HBW.out.trans (hb.mono HBW.out.size)
      have SZ12 : w1.heap.size ≤ w2.heap.size := hb.size
      clear k0 k1 k2 k3 k4 k5 k6 z0 z1 z2 z3 z4 z5 z6 y0 y1 r0 r1 r2 r3 r4 r5 r6 s0 s1 s2 s3 s4 s5 s6 G0 GW G1 HBW
      have HBW := Aside0.mk hbw
      obtain ⟨k0, k1, k2, k3, k4, k5, k6⟩ := cells7 g0
      obtain ⟨z0, z1, z2, z3, z4, z5, z6⟩ := froz7 g0
      have y0 : w2.cell? ⟨bw, 0, none⟩ = some (.int .i64 sys) := by rw [blk_cell gw]; rfl
      have y1 : w2.cell? ⟨bw, 1, none⟩ = some (.int .i64 ep) := by rw [blk_cell gw]; rfl
      obtain ⟨r0, r1, r2, r3, r4, r5, r6⟩ := cells7 g1
      obtain ⟨s0, s1, s2, s3, s4, s5, s6⟩ := froz7 g1
      have G0 := Aside0.mk g0
      have GW := Aside0.mk gw
      have G1 := Aside0.mk g1
      clear g0 gw g1
      clear hb hbw
      go_wp2_with fail
      refine (HT.out w2).mono ?_
      rintro e w3 ⟨rfl, hb⟩
      have g0 := blk_below G0.out hb
      have gw := blk_below GW.out hb
      have g1 := blk_below G1.out hb
      have hbw := HBW.out.trans (hb.mono HBW.out.size)
      have SZ23 : w2.heap.size ≤ w3.heap.size := hb.size
      clear k0 k1 k2 k3 k4 k5 k6 z0 z1 z2 z3 z4 z5 z6 y0 y1 r0 r1 r2 r3 r4 r5 r6 s0 s1 s2 s3 s4 s5 s6 G0 GW G1 HBW
      have HBW := Aside0.mk hbw
      obtain ⟨k0, k1, k2, k3, k4, k5, k6⟩ := cells7 g0
      obtain ⟨z0, z1, z2, z3, z4, z5, z6⟩ := froz7 g0
      have y0 : w3.cell? ⟨bw, 0, none⟩ = some (.int .i64 sys) := by rw [blk_cell gw]; rfl
      have y1 : w3.cell? ⟨bw, 1, none⟩ = some (.int .i64 ep) := by rw [blk_cell gw]; rfl
      obtain ⟨r0, r1, r2, r3, r4, r5, r6⟩ := cells7 g1
      obtain ⟨s0, s1, s2, s3, s4, s5, s6⟩ := froz7 g1
      have G0 := Aside0.mk g0
      have GW := Aside0.mk gw
      have G1 := Aside0.mk g1
      clear g0 gw g1
      clear hb hbw
      go_wp2_with fail
      refine (HFC.out w3 HBW.out).mono ?_
      rintro e w4 ⟨rfl, hb⟩
      have g0 := blk_below G0.out hb
      have gw := blk_below GW.out hb
      have g1 := blk_below G1.out hb
      have hbw := HBW.out.trans (hb.mono HBW.out.size)
      have SZ34 : w3.heap.size ≤ w4.heap.size := hb.size
      clear k0 k1 k2 k3 k4 k5 k6 z0 z1 z2 z3 z4 z5 z6 y0 y1 r0 r1 r2 r3 r4 r5 r6 s0 s1 s2 s3 s4 s5 s6 G0 GW G1 HBW
      have HBW := Aside0.mk hbw
      obtain ⟨k0, k1, k2, k3, k4, k5, k6⟩ := cells7 g0
      obtain ⟨z0, z1, z2, z3, z4, z5, z6⟩ := froz7 g0
      have y0 : w4.cell? ⟨bw, 0, none⟩ = some (.int .i64 sys) := by rw [blk_cell gw]; rfl
      have y1 : w4.cell? ⟨bw, 1, none⟩ = some (.int .i64 ep) := by rw [blk_cell gw]; rfl
      obtain ⟨r0, r1, r2, r3, r4, r5, r6⟩ := cells7 g1
      obtain ⟨s0, s1, s2, s3, s4, s5, s6⟩ := froz7 g1
      have G0 := Aside0.mk g0
      have GW := Aside0.mk gw
      have G1 := Aside0.mk g1
      clear g0 gw g1
      clear hb hbw
      go_wp2_with fail
      have hbC := set7_below HBW.out LB.out.2.2.1 (.slice A0 n0 c0) (.slice A1 n1 c1) (.slice A2 n2 c2) (.slice A3 n3 c3) (.bool false) (.int .i64 fu) (.slice A6 n6 c6)
      refine bodyPost_ret (results_ct rfl _ _ rb 31 #[.slice A0 n0 c0, .slice A1 n1 c1, .slice A2 n2 c2, .slice A3 n3 c3, .bool false, .int .i64 fu, .slice A6 n6 c6] (0, 0) _ rfl (set7_blk G1.out (.slice A0 n0 c0) (.slice A1 n1 c1) (.slice A2 n2 c2) (.slice A3 n3 c3) (.bool false) (.int .i64 fu) (.slice A6 n6 c6)) Try.underlying31 rfl (by kernel_rfl)) rfl ?_
      refine ⟨_, rfl, ?_, hbC⟩
      exact (HR.out.below hbC).mono (fun k hk _ => Or.inl hk)
     | false =>
      have ha := admit_use S sys ep EFA.out hfe
      have hgu : Good k (useS S).2 := by have := HG.out.admit sys ep; rw [ha] at this; exact this
      rw [ha] at HSY
      rw [hfe] at HFC
      have HGU := Aside0.mk hgu
      clear ha hgu hfe
      cases hb' : (useS S).1 with
      | true =>
       rw [hb'] at HSY
       have hu : writeS S sys ep sec d = (10, (useS S).2) := by rw [HSY.out, if_pos rfl, if_neg (by show ¬ (10 : Int) = 0; decide)]
       rw [hu]
       have HUB := Aside0.mk hb'
       clear hu hb'
       go_enter Try.func28, Try.ntmps28
       go_wp2_with fail
       obtain ⟨w1, hw1⟩ : ∃ w1, w1 = ((W.alloc (.cells #[.slice A0 n0 c0, .slice A1 n1 c1, .slice A2 n2 c2, .slice A3 n3 c3, .bool false, .int .i64 fu, .slice A6 n6 c6] 31)).alloc (.cells #[.int .i64 sys, .int .i64 ep] 35)).alloc (.cells #[.slice none 0 0, .slice none 0 0, .slice none 0 0, .slice none 0 0, .bool false, .int .i64 0, .slice none 0 0] 31) := ⟨_, rfl⟩
       obtain ⟨g0, gw, g1, hb1⟩ := three W (.cells #[.slice A0 n0 c0, .slice A1 n1 c1, .slice A2 n2 c2, .slice A3 n3 c3, .bool false, .int .i64 fu, .slice A6 n6 c6] 31) (.cells #[.int .i64 sys, .int .i64 ep] 35) (.cells #[.slice none 0 0, .slice none 0 0, .slice none 0 0, .slice none 0 0, .bool false, .int .i64 0, .slice none 0 0] 31)
       rw [← hw1] at g0 gw g1 hb1 ⊢
       obtain ⟨bx, hbx⟩ : ∃ bx, bx = W.heap.size := ⟨_, rfl⟩
       obtain ⟨bw, hbw⟩ : ∃ bw, bw = W.heap.size + 1 := ⟨_, rfl⟩
       obtain ⟨rb, hrb⟩ : ∃ rb, rb = W.heap.size + 1 + 1 := ⟨_, rfl⟩
       rw [← hrb] at g1 ⊢
       rw [← hbw] at gw ⊢
       rw [show (Value.pointer (some ⟨W.heap.size, 0, none⟩)) = .pointer (some ⟨bx, 0, none⟩) by rw [hbx]]
       rw [← hbx] at g0
       have hs1 : w1.heap.size = W.heap.size + 1 + 1 + 1 := by rw [hw1]; simp
       have LB := Aside0.mk (show W.heap.size ≤ bx ∧ W.heap.size ≤ bw ∧ W.heap.size ≤ rb ∧ bx ≠ rb ∧ bw ≠ rb ∧ bx ≠ bw ∧ bx < w1.heap.size ∧ rb < w1.heap.size ∧ bw < w1.heap.size from ⟨by omega, by omega, by omega, by omega, by omega, by omega, by omega, by omega, by omega⟩)
       have ne1 : bx ≠ rb := LB.out.2.2.2.1
       have ne2 : rb ≠ bx := fun e => ne1 e.symm
       have HBW := Aside0.mk hb1
       obtain ⟨k0, k1, k2, k3, k4, k5, k6⟩ := cells7 g0
       obtain ⟨z0, z1, z2, z3, z4, z5, z6⟩ := froz7 g0
       have y0 : w1.cell? ⟨bw, 0, none⟩ = some (.int .i64 sys) := by rw [blk_cell gw]; rfl
       have y1 : w1.cell? ⟨bw, 1, none⟩ = some (.int .i64 ep) := by rw [blk_cell gw]; rfl
       obtain ⟨r0, r1, r2, r3, r4, r5, r6⟩ := cells7 g1
       obtain ⟨s0, s1, s2, s3, s4, s5, s6⟩ := froz7 g1
       have G0 := Aside0.mk g0
       have GW := Aside0.mk gw
       have G1 := Aside0.mk g1
       clear g0 gw g1
       clear hw1 hb1 hbx hbw hrb hs1
       refine (HWR.out w1).mono ?_
       rintro e w2 ⟨rfl, hb⟩
       have g0 := blk_below G0.out hb
       have gw := blk_below GW.out hb
       have g1 := blk_below G1.out hb
       have hbw := HBW.out.trans (hb.mono HBW.out.size)
       have SZ12 : w1.heap.size ≤ w2.heap.size := hb.size
       clear k0 k1 k2 k3 k4 k5 k6 z0 z1 z2 z3 z4 z5 z6 y0 y1 r0 r1 r2 r3 r4 r5 r6 s0 s1 s2 s3 s4 s5 s6 G0 GW G1 HBW
       have HBW := Aside0.mk hbw
       obtain ⟨k0, k1, k2, k3, k4, k5, k6⟩ := cells7 g0
       obtain ⟨z0, z1, z2, z3, z4, z5, z6⟩ := froz7 g0
       have y0 : w2.cell? ⟨bw, 0, none⟩ = some (.int .i64 sys) := by rw [blk_cell gw]; rfl
       have y1 : w2.cell? ⟨bw, 1, none⟩ = some (.int .i64 ep) := by rw [blk_cell gw]; rfl
       obtain ⟨r0, r1, r2, r3, r4, r5, r6⟩ := cells7 g1
       obtain ⟨s0, s1, s2, s3, s4, s5, s6⟩ := froz7 g1
       have G0 := Aside0.mk g0
       have GW := Aside0.mk gw
       have G1 := Aside0.mk g1
       clear g0 gw g1
       clear hb hbw
       go_wp2_with fail
       refine (HT.out w2).mono ?_
       rintro e w3 ⟨rfl, hb⟩
       have g0 := blk_below G0.out hb
       have gw := blk_below GW.out hb
       have g1 := blk_below G1.out hb
       have hbw := HBW.out.trans (hb.mono HBW.out.size)
       have SZ23 : w2.heap.size ≤ w3.heap.size := hb.size
       clear k0 k1 k2 k3 k4 k5 k6 z0 z1 z2 z3 z4 z5 z6 y0 y1 r0 r1 r2 r3 r4 r5 r6 s0 s1 s2 s3 s4 s5 s6 G0 GW G1 HBW
       have HBW := Aside0.mk hbw
       obtain ⟨k0, k1, k2, k3, k4, k5, k6⟩ := cells7 g0
       obtain ⟨z0, z1, z2, z3, z4, z5, z6⟩ := froz7 g0
       have y0 : w3.cell? ⟨bw, 0, none⟩ = some (.int .i64 sys) := by rw [blk_cell gw]; rfl
       have y1 : w3.cell? ⟨bw, 1, none⟩ = some (.int .i64 ep) := by rw [blk_cell gw]; rfl
       obtain ⟨r0, r1, r2, r3, r4, r5, r6⟩ := cells7 g1
       obtain ⟨s0, s1, s2, s3, s4, s5, s6⟩ := froz7 g1
       have G0 := Aside0.mk g0
       have GW := Aside0.mk gw
       have G1 := Aside0.mk g1
       clear g0 gw g1
       clear hb hbw
       go_wp2_with fail
       refine (HFC.out w3 HBW.out).mono ?_
       rintro e w4 ⟨rfl, hb⟩
       have g0 := blk_below G0.out hb
       have gw := blk_below GW.out hb
       have g1 := blk_below G1.out hb
       have hbw := HBW.out.trans (hb.mono HBW.out.size)
       have SZ34 : w3.heap.size ≤ w4.heap.size := hb.size
       clear k0 k1 k2 k3 k4 k5 k6 z0 z1 z2 z3 z4 z5 z6 y0 y1 r0 r1 r2 r3 r4 r5 r6 s0 s1 s2 s3 s4 s5 s6 G0 GW G1 HBW
       have HBW := Aside0.mk hbw
       obtain ⟨k0, k1, k2, k3, k4, k5, k6⟩ := cells7 g0
       obtain ⟨z0, z1, z2, z3, z4, z5, z6⟩ := froz7 g0
       have y0 : w4.cell? ⟨bw, 0, none⟩ = some (.int .i64 sys) := by rw [blk_cell gw]; rfl
       have y1 : w4.cell? ⟨bw, 1, none⟩ = some (.int .i64 ep) := by rw [blk_cell gw]; rfl
       obtain ⟨r0, r1, r2, r3, r4, r5, r6⟩ := cells7 g1
       obtain ⟨s0, s1, s2, s3, s4, s5, s6⟩ := froz7 g1
       have G0 := Aside0.mk g0
       have GW := Aside0.mk gw
       have G1 := Aside0.mk g1
       clear g0 gw g1
       clear hb hbw
       go_wp2_with fail
       have SZ13 : w1.heap.size ≤ w4.heap.size := Nat.le_trans (Nat.le_trans SZ12 SZ23) SZ34
       refine (use_ref (ok := fun k => ok k ∧ k < W.heap.size) ((HR.out.mono (ok' := fun k => ok k ∧ k < W.heap.size) (fun k hk hlt => ⟨hk, hlt⟩)).below HBW.out) HG.out hk).mono ?_
       rintro e w45 ⟨v4, rfl, hR4, hb⟩
       rw [HUB.out]
       have HW13 := Aside0.mk (show w1.heap.size ≤ w4.heap.size from SZ13)
       obtain ⟨E0, E1, E2, E3, E6, d0, d1, d2, d3, d6, gl, gu, gs, hRC⟩ := hR4.open_
       obtain rfl := hRC.hv
       obtain ⟨S2, hS2⟩ : ∃ S2, S2 = (useS S).2 := ⟨_, rfl⟩
       rw [← hS2] at hR4 ⊢
       have HS2 := Aside0.mk hS2
       clear hS2
       obtain ⟨m0, hm0⟩ : ∃ m, m = S2.stable.length := ⟨_, rfl⟩
       obtain ⟨m1, hm1⟩ : ∃ m, m = S2.old.length := ⟨_, rfl⟩
       obtain ⟨m2, hm2⟩ : ∃ m, m = S2.pend.length := ⟨_, rfl⟩
       obtain ⟨m3, hm3⟩ : ∃ m, m = gl.length := ⟨_, rfl⟩
       obtain ⟨m6, hm6⟩ : ∃ m, m = gs.length := ⟨_, rfl⟩
       obtain ⟨ma, hma⟩ : ∃ m, m = S2.failed := ⟨_, rfl⟩
       rw [← hm0, ← hm1, ← hm2, ← hm3, ← hm6, ← hma]
       rw [← hm0, ← hm1, ← hm2, ← hm3, ← hm6, ← hma] at hR4
       have HR4 := Aside0.mk hR4
       clear hRC hm0 hm1 hm2 hm3 hm6 hma hR4
       have g0 := blk_below G0.out hb
       have gw := blk_below GW.out hb
       have g1 := blk_below G1.out hb
       have hbw := HBW.out.trans (hb.mono HBW.out.size)
       have SZ4x : w4.heap.size ≤ w45.heap.size := hb.size
       clear k0 k1 k2 k3 k4 k5 k6 z0 z1 z2 z3 z4 z5 z6 y0 y1 r0 r1 r2 r3 r4 r5 r6 s0 s1 s2 s3 s4 s5 s6 G0 GW G1 HBW
       have HBW := Aside0.mk hbw
       obtain ⟨k0, k1, k2, k3, k4, k5, k6⟩ := cells7 g0
       obtain ⟨z0, z1, z2, z3, z4, z5, z6⟩ := froz7 g0
       have y0 : w45.cell? ⟨bw, 0, none⟩ = some (.int .i64 sys) := by rw [blk_cell gw]; rfl
       have y1 : w45.cell? ⟨bw, 1, none⟩ = some (.int .i64 ep) := by rw [blk_cell gw]; rfl
       obtain ⟨r0, r1, r2, r3, r4, r5, r6⟩ := cells7 g1
       obtain ⟨s0, s1, s2, s3, s4, s5, s6⟩ := froz7 g1
       have G0 := Aside0.mk g0
       have GW := Aside0.mk gw
       have G1 := Aside0.mk g1
       clear g0 gw g1
       clear hb hbw
       go_upto_region 10 with (fail)
       obtain ⟨w5, hw5⟩ : ∃ w5, w5 = set7 w45 bx (.slice E0 m0 d0) (.slice E1 m1 d1) (.slice E2 m2 d2) (.slice E3 m3 d3) (.bool ma) (.int .i64 gu) (.slice E6 m6 d6) := ⟨_, rfl⟩
       have hf5 : ∀ k, k ≠ bx → w5.heap[k]? = w45.heap[k]? := fun k hk => by rw [hw5]; exact set7_far w45 bx (.slice E0 m0 d0) (.slice E1 m1 d1) (.slice E2 m2 d2) (.slice E3 m3 d3) (.bool ma) (.int .i64 gu) (.slice E6 m6 d6) k hk
       have g0 : w5.heap[bx]? = some (.cells #[.slice E0 m0 d0, .slice E1 m1 d1, .slice E2 m2 d2, .slice E3 m3 d3, .bool ma, .int .i64 gu, .slice E6 m6 d6] 31 (0, 0)) := by rw [hw5]; exact set7_blk G0.out (.slice E0 m0 d0) (.slice E1 m1 d1) (.slice E2 m2 d2) (.slice E3 m3 d3) (.bool ma) (.int .i64 gu) (.slice E6 m6 d6)
       have g1 := (hf5 rb ne2).trans G1.out
       have gw := (hf5 bw (fun e => LB.out.2.2.2.2.2.1 e.symm)).trans GW.out
       have hb5 : Below W.heap.size W w5 := by rw [hw5]; exact set7_below HBW.out LB.out.1 (.slice E0 m0 d0) (.slice E1 m1 d1) (.slice E2 m2 d2) (.slice E3 m3 d3) (.bool ma) (.int .i64 gu) (.slice E6 m6 d6)
       have hs5 : w5.heap.size = w45.heap.size := by rw [hw5]; exact set7_size w45 bx (.slice E0 m0 d0) (.slice E1 m1 d1) (.slice E2 m2 d2) (.slice E3 m3 d3) (.bool ma) (.int .i64 gu) (.slice E6 m6 d6)
       have HF5 := Aside0.mk hf5
       have HS5 := Aside0.mk hs5
       have HOK := Aside0.mk (show ∀ k, ((ok k ∧ k < W.heap.size) ∨ w4.heap.size ≤ k) → k ≠ bx ∧ k ≠ rb ∧ (ok k ∨ W.heap.size ≤ k) from fun k hk => by
        obtain ⟨l1, l2, l3, l4, l5, l6, l7, l8, l9⟩ := LB.out
        have l10 := HW13.out
        rcases hk with hk | hk
        ·exact ⟨by omega, by omega, Or.inl hk.1⟩
        ·exact ⟨by omega, by omega, Or.inr (by omega)⟩)
       unfold set7 at hw5
       rw [← hw5]
       clear hw5 hf5 hs5 k0 k1 k2 k3 k4 k5 k6 z0 z1 z2 z3 z4 z5 z6 y0 y1 r0 r1 r2 r3 r4 r5 r6 s0 s1 s2 s3 s4 s5 s6 G0 GW G1 HBW
       have HBW := Aside0.mk hb5
       obtain ⟨k0, k1, k2, k3, k4, k5, k6⟩ := cells7 g0
       obtain ⟨z0, z1, z2, z3, z4, z5, z6⟩ := froz7 g0
       have y0 : w5.cell? ⟨bw, 0, none⟩ = some (.int .i64 sys) := by rw [blk_cell gw]; rfl
       have y1 : w5.cell? ⟨bw, 1, none⟩ = some (.int .i64 ep) := by rw [blk_cell gw]; rfl
       obtain ⟨r0, r1, r2, r3, r4, r5, r6⟩ := cells7 g1
       obtain ⟨s0, s1, s2, s3, s4, s5, s6⟩ := froz7 g1
       have G0 := Aside0.mk g0
       have GW := Aside0.mk gw
       have G1 := Aside0.mk g1
       clear g0 gw g1
       clear hb5
       go_wp2_with fail
       have hbC := set7_below HBW.out LB.out.2.2.1 (.slice E0 m0 d0) (.slice E1 m1 d1) (.slice E2 m2 d2) (.slice E3 m3 d3) (.bool ma) (.int .i64 gu) (.slice E6 m6 d6)
       refine bodyPost_ret (results_ct rfl _ _ rb 31 #[.slice E0 m0 d0, .slice E1 m1 d1, .slice E2 m2 d2, .slice E3 m3 d3, .bool ma, .int .i64 gu, .slice E6 m6 d6] (0, 0) _ rfl (set7_blk G1.out (.slice E0 m0 d0) (.slice E1 m1 d1) (.slice E2 m2 d2) (.slice E3 m3 d3) (.bool ma) (.int .i64 gu) (.slice E6 m6 d6)) Try.underlying31 rfl (by kernel_rfl)) rfl ?_
       refine ⟨_, rfl, ?_, hbC⟩
       have hh := (HR4.out.step (fun k hk _ => (set7_far w5 rb (.slice E0 m0 d0) (.slice E1 m1 d1) (.slice E2 m2 d2) (.slice E3 m3 d3) (.bool ma) (.int .i64 gu) (.slice E6 m6 d6) k (HOK.out k hk).2.1).trans (HF5.out k (HOK.out k hk).1))).mono (fun k hk _ => (HOK.out k hk).2.2)
       rw [HS2.out] at hh
       exact hh
      | false =>
       rw [hb'] at HSY
       have hu : writeS S sys ep sec d = (0, pushS (useS S).2 ⟨sys, sec, d⟩) := by rw [HSY.out]; simp
       rw [hu]
       have HUB := Aside0.mk hb'
       clear hu hb'
       go_enter Try.func28, Try.ntmps28
       go_wp2_with fail
       obtain ⟨w1, hw1⟩ : ∃ w1, w1 = ((W.alloc (.cells #[.slice A0 n0 c0, .slice A1 n1 c1, .slice A2 n2 c2, .slice A3 n3 c3, .bool false, .int .i64 fu, .slice A6 n6 c6] 31)).alloc (.cells #[.int .i64 sys, .int .i64 ep] 35)).alloc (.cells #[.slice none 0 0, .slice none 0 0, .slice none 0 0, .slice none 0 0, .bool false, .int .i64 0, .slice none 0 0] 31) := ⟨_, rfl⟩
       obtain ⟨g0, gw, g1, hb1⟩ := three W (.cells #[.slice A0 n0 c0, .slice A1 n1 c1, .slice A2 n2 c2, .slice A3 n3 c3, .bool false, .int .i64 fu, .slice A6 n6 c6] 31) (.cells #[.int .i64 sys, .int .i64 ep] 35) (.cells #[.slice none 0 0, .slice none 0 0, .slice none 0 0, .slice none 0 0, .bool false, .int .i64 0, .slice none 0 0] 31)
       rw [← hw1] at g0 gw g1 hb1 ⊢
       obtain ⟨bx, hbx⟩ : ∃ bx, bx = W.heap.size := ⟨_, rfl⟩
       obtain ⟨bw, hbw⟩ : ∃ bw, bw = W.heap.size + 1 := ⟨_, rfl⟩
       obtain ⟨rb, hrb⟩ : ∃ rb, rb = W.heap.size + 1 + 1 := ⟨_, rfl⟩
       rw [← hrb] at g1 ⊢
       rw [← hbw] at gw ⊢
       rw [show (Value.pointer (some ⟨W.heap.size, 0, none⟩)) = .pointer (some ⟨bx, 0, none⟩) by rw [hbx]]
       rw [← hbx] at g0
       have hs1 : w1.heap.size = W.heap.size + 1 + 1 + 1 := by rw [hw1]; simp
       have LB := Aside0.mk (show W.heap.size ≤ bx ∧ W.heap.size ≤ bw ∧ W.heap.size ≤ rb ∧ bx ≠ rb ∧ bw ≠ rb ∧ bx ≠ bw ∧ bx < w1.heap.size ∧ rb < w1.heap.size ∧ bw < w1.heap.size from ⟨by omega, by omega, by omega, by omega, by omega, by omega, by omega, by omega, by omega⟩)
       have ne1 : bx ≠ rb := LB.out.2.2.2.1
       have ne2 : rb ≠ bx := fun e => ne1 e.symm
       have HBW := Aside0.mk hb1
       obtain ⟨k0, k1, k2, k3, k4, k5, k6⟩ := cells7 g0
       obtain ⟨z0, z1, z2, z3, z4, z5, z6⟩ := froz7 g0
       have y0 : w1.cell? ⟨bw, 0, none⟩ = some (.int .i64 sys) := by rw [blk_cell gw]; rfl
       have y1 : w1.cell? ⟨bw, 1, none⟩ = some (.int .i64 ep) := by rw [blk_cell gw]; rfl
       obtain ⟨r0, r1, r2, r3, r4, r5, r6⟩ := cells7 g1
       obtain ⟨s0, s1, s2, s3, s4, s5, s6⟩ := froz7 g1
       have G0 := Aside0.mk g0
       have GW := Aside0.mk gw
       have G1 := Aside0.mk g1
       clear g0 gw g1
       clear hw1 hb1 hbx hbw hrb hs1
       refine (HWR.out w1).mono ?_
       rintro e w2 ⟨rfl, hb⟩
       have g0 := blk_below G0.out hb
       have gw := blk_below GW.out hb
       have g1 := blk_below G1.out hb
       have hbw := HBW.out.trans (hb.mono HBW.out.size)
       have SZ12 : w1.heap.size ≤ w2.heap.size := hb.size
       clear k0 k1 k2 k3 k4 k5 k6 z0 z1 z2 z3 z4 z5 z6 y0 y1 r0 r1 r2 r3 r4 r5 r6 s0 s1 s2 s3 s4 s5 s6 G0 GW G1 HBW
       have HBW := Aside0.mk hbw
       obtain ⟨k0, k1, k2, k3, k4, k5, k6⟩ := cells7 g0
       obtain ⟨z0, z1, z2, z3, z4, z5, z6⟩ := froz7 g0
       have y0 : w2.cell? ⟨bw, 0, none⟩ = some (.int .i64 sys) := by rw [blk_cell gw]; rfl
       have y1 : w2.cell? ⟨bw, 1, none⟩ = some (.int .i64 ep) := by rw [blk_cell gw]; rfl
       obtain ⟨r0, r1, r2, r3, r4, r5, r6⟩ := cells7 g1
       obtain ⟨s0, s1, s2, s3, s4, s5, s6⟩ := froz7 g1
       have G0 := Aside0.mk g0
       have GW := Aside0.mk gw
       have G1 := Aside0.mk g1
       clear g0 gw g1
       clear hb hbw
       go_wp2_with fail
       refine (HT.out w2).mono ?_
       rintro e w3 ⟨rfl, hb⟩
       have g0 := blk_below G0.out hb
       have gw := blk_below GW.out hb
       have g1 := blk_below G1.out hb
       have hbw := HBW.out.trans (hb.mono HBW.out.size)
       have SZ23 : w2.heap.size ≤ w3.heap.size := hb.size
       clear k0 k1 k2 k3 k4 k5 k6 z0 z1 z2 z3 z4 z5 z6 y0 y1 r0 r1 r2 r3 r4 r5 r6 s0 s1 s2 s3 s4 s5 s6 G0 GW G1 HBW
       have HBW := Aside0.mk hbw
       obtain ⟨k0, k1, k2, k3, k4, k5, k6⟩ := cells7 g0
       obtain ⟨z0, z1, z2, z3, z4, z5, z6⟩ := froz7 g0
       have y0 : w3.cell? ⟨bw, 0, none⟩ = some (.int .i64 sys) := by rw [blk_cell gw]; rfl
       have y1 : w3.cell? ⟨bw, 1, none⟩ = some (.int .i64 ep) := by rw [blk_cell gw]; rfl
       obtain ⟨r0, r1, r2, r3, r4, r5, r6⟩ := cells7 g1
       obtain ⟨s0, s1, s2, s3, s4, s5, s6⟩ := froz7 g1
       have G0 := Aside0.mk g0
       have GW := Aside0.mk gw
       have G1 := Aside0.mk g1
       clear g0 gw g1
       clear hb hbw
       go_wp2_with fail
       refine (HFC.out w3 HBW.out).mono ?_
       rintro e w4 ⟨rfl, hb⟩
       have g0 := blk_below G0.out hb
       have gw := blk_below GW.out hb
       have g1 := blk_below G1.out hb
       have hbw := HBW.out.trans (hb.mono HBW.out.size)
       have SZ34 : w3.heap.size ≤ w4.heap.size := hb.size
       clear k0 k1 k2 k3 k4 k5 k6 z0 z1 z2 z3 z4 z5 z6 y0 y1 r0 r1 r2 r3 r4 r5 r6 s0 s1 s2 s3 s4 s5 s6 G0 GW G1 HBW
       have HBW := Aside0.mk hbw
       obtain ⟨k0, k1, k2, k3, k4, k5, k6⟩ := cells7 g0
       obtain ⟨z0, z1, z2, z3, z4, z5, z6⟩ := froz7 g0
       have y0 : w4.cell? ⟨bw, 0, none⟩ = some (.int .i64 sys) := by rw [blk_cell gw]; rfl
       have y1 : w4.cell? ⟨bw, 1, none⟩ = some (.int .i64 ep) := by rw [blk_cell gw]; rfl
       obtain ⟨r0, r1, r2, r3, r4, r5, r6⟩ := cells7 g1
       obtain ⟨s0, s1, s2, s3, s4, s5, s6⟩ := froz7 g1
       have G0 := Aside0.mk g0
       have GW := Aside0.mk gw
       have G1 := Aside0.mk g1
       clear g0 gw g1
       clear hb hbw
       go_wp2_with fail
       have SZ13 : w1.heap.size ≤ w4.heap.size := Nat.le_trans (Nat.le_trans SZ12 SZ23) SZ34
       refine (use_ref (ok := fun k => ok k ∧ k < W.heap.size) ((HR.out.mono (ok' := fun k => ok k ∧ k < W.heap.size) (fun k hk hlt => ⟨hk, hlt⟩)).below HBW.out) HG.out hk).mono ?_
       rintro e w45 ⟨v4, rfl, hR4, hb⟩
       rw [HUB.out]
       have HW13 := Aside0.mk (show w1.heap.size ≤ w4.heap.size from SZ13)
       obtain ⟨E0, E1, E2, E3, E6, d0, d1, d2, d3, d6, gl, gu, gs, hRC⟩ := hR4.open_
       obtain rfl := hRC.hv
       obtain ⟨S2, hS2⟩ : ∃ S2, S2 = (useS S).2 := ⟨_, rfl⟩
       rw [← hS2] at hR4 ⊢
       have HS2 := Aside0.mk hS2
       clear hS2
       obtain ⟨m0, hm0⟩ : ∃ m, m = S2.stable.length := ⟨_, rfl⟩
       obtain ⟨m1, hm1⟩ : ∃ m, m = S2.old.length := ⟨_, rfl⟩
       obtain ⟨m2, hm2⟩ : ∃ m, m = S2.pend.length := ⟨_, rfl⟩
       obtain ⟨m3, hm3⟩ : ∃ m, m = gl.length := ⟨_, rfl⟩
       obtain ⟨m6, hm6⟩ : ∃ m, m = gs.length := ⟨_, rfl⟩
       obtain ⟨ma, hma⟩ : ∃ m, m = S2.failed := ⟨_, rfl⟩
       rw [← hm0, ← hm1, ← hm2, ← hm3, ← hm6, ← hma]
       rw [← hm0, ← hm1, ← hm2, ← hm3, ← hm6, ← hma] at hR4
       have HR4 := Aside0.mk hR4
       clear hRC hm0 hm1 hm2 hm3 hm6 hma hR4
       have g0 := blk_below G0.out hb
       have gw := blk_below GW.out hb
       have g1 := blk_below G1.out hb
       have hbw := HBW.out.trans (hb.mono HBW.out.size)
       have SZ4x : w4.heap.size ≤ w45.heap.size := hb.size
       clear k0 k1 k2 k3 k4 k5 k6 z0 z1 z2 z3 z4 z5 z6 y0 y1 r0 r1 r2 r3 r4 r5 r6 s0 s1 s2 s3 s4 s5 s6 G0 GW G1 HBW
       have HBW := Aside0.mk hbw
       obtain ⟨k0, k1, k2, k3, k4, k5, k6⟩ := cells7 g0
       obtain ⟨z0, z1, z2, z3, z4, z5, z6⟩ := froz7 g0
       have y0 : w45.cell? ⟨bw, 0, none⟩ = some (.int .i64 sys) := by rw [blk_cell gw]; rfl
       have y1 : w45.cell? ⟨bw, 1, none⟩ = some (.int .i64 ep) := by rw [blk_cell gw]; rfl
       obtain ⟨r0, r1, r2, r3, r4, r5, r6⟩ := cells7 g1
       obtain ⟨s0, s1, s2, s3, s4, s5, s6⟩ := froz7 g1
       have G0 := Aside0.mk g0
       have GW := Aside0.mk gw
       have G1 := Aside0.mk g1
       clear g0 gw g1
       clear hb hbw
       go_upto_region 10 with (fail)
       obtain ⟨w5, hw5⟩ : ∃ w5, w5 = set7 w45 bx (.slice E0 m0 d0) (.slice E1 m1 d1) (.slice E2 m2 d2) (.slice E3 m3 d3) (.bool ma) (.int .i64 gu) (.slice E6 m6 d6) := ⟨_, rfl⟩
       have hf5 : ∀ k, k ≠ bx → w5.heap[k]? = w45.heap[k]? := fun k hk => by rw [hw5]; exact set7_far w45 bx (.slice E0 m0 d0) (.slice E1 m1 d1) (.slice E2 m2 d2) (.slice E3 m3 d3) (.bool ma) (.int .i64 gu) (.slice E6 m6 d6) k hk
       have g0 : w5.heap[bx]? = some (.cells #[.slice E0 m0 d0, .slice E1 m1 d1, .slice E2 m2 d2, .slice E3 m3 d3, .bool ma, .int .i64 gu, .slice E6 m6 d6] 31 (0, 0)) := by rw [hw5]; exact set7_blk G0.out (.slice E0 m0 d0) (.slice E1 m1 d1) (.slice E2 m2 d2) (.slice E3 m3 d3) (.bool ma) (.int .i64 gu) (.slice E6 m6 d6)
       have g1 := (hf5 rb ne2).trans G1.out
       have gw := (hf5 bw (fun e => LB.out.2.2.2.2.2.1 e.symm)).trans GW.out
       have hb5 : Below W.heap.size W w5 := by rw [hw5]; exact set7_below HBW.out LB.out.1 (.slice E0 m0 d0) (.slice E1 m1 d1) (.slice E2 m2 d2) (.slice E3 m3 d3) (.bool ma) (.int .i64 gu) (.slice E6 m6 d6)
       have hs5 : w5.heap.size = w45.heap.size := by rw [hw5]; exact set7_size w45 bx (.slice E0 m0 d0) (.slice E1 m1 d1) (.slice E2 m2 d2) (.slice E3 m3 d3) (.bool ma) (.int .i64 gu) (.slice E6 m6 d6)
       have HF5 := Aside0.mk hf5
       have HS5 := Aside0.mk hs5
       have HOK := Aside0.mk (show ∀ k, ((ok k ∧ k < W.heap.size) ∨ w4.heap.size ≤ k) → k ≠ bx ∧ k ≠ rb ∧ (ok k ∨ W.heap.size ≤ k) from fun k hk => by
        obtain ⟨l1, l2, l3, l4, l5, l6, l7, l8, l9⟩ := LB.out
        have l10 := HW13.out
        rcases hk with hk | hk
        ·exact ⟨by omega, by omega, Or.inl hk.1⟩
        ·exact ⟨by omega, by omega, Or.inr (by omega)⟩)
       unfold set7 at hw5
       rw [← hw5]
       clear hw5 hf5 hs5 k0 k1 k2 k3 k4 k5 k6 z0 z1 z2 z3 z4 z5 z6 y0 y1 r0 r1 r2 r3 r4 r5 r6 s0 s1 s2 s3 s4 s5 s6 G0 GW G1 HBW
       have HBW := Aside0.mk hb5
       obtain ⟨k0, k1, k2, k3, k4, k5, k6⟩ := cells7 g0
       obtain ⟨z0, z1, z2, z3, z4, z5, z6⟩ := froz7 g0
       have y0 : w5.cell? ⟨bw, 0, none⟩ = some (.int .i64 sys) := by rw [blk_cell gw]; rfl
       have y1 : w5.cell? ⟨bw, 1, none⟩ = some (.int .i64 ep) := by rw [blk_cell gw]; rfl
       obtain ⟨r0, r1, r2, r3, r4, r5, r6⟩ := cells7 g1
       obtain ⟨s0, s1, s2, s3, s4, s5, s6⟩ := froz7 g1
       have G0 := Aside0.mk g0
       have GW := Aside0.mk gw
       have G1 := Aside0.mk g1
       clear g0 gw g1
       clear hb5
       obtain ⟨gl', gu', gs', x4, x5, hA2⟩ := HR4.out.agg
       obtain ⟨Aq, cq, eS2, hlS2, hFS2⟩ := id hA2.h2
       have hm2 : m2 = S2.pend.length := by injection eS2
       have heq : E2 = Aq := by injection eS2
       subst heq
       rw [← hm2] at hFS2
       obtain ⟨pd, hpd⟩ : ∃ pd, pd = S2.pend := ⟨_, rfl⟩
       have hpl : pd.length ≤ k := by rw [hpd, HS2.out]; exact HGU.out.fine.plen
       rw [← hpd] at hm2 hFS2
       have HPD := Aside0.mk hpd
       have HM2 := Aside0.mk hm2
       have hC5 : Kd.C k99 w5 E2 m2 pd := Kd.F_now (Kd.F_step hFS2 (fun k hk _ => HF5.out k (HOK.out k hk).1))
       have hm2k : m2 ≤ 1000000 := by omega
       have HC2 := Aside0.mk hC5
       have HK2 := Aside0.mk k2
       have HY0 := Aside0.mk y0
       have HBe : Aside0 (Below w5.heap.size w5 w5.drew) := ⟨(Below.refl _ _).drew⟩
       clear hpd hm2 hFS2 hC5 hpl eS2 hlS2 hA2 x4 x5 cq gl' gu' gs'
       go_wp2_with fail
       refine start_ (n := 13) (S := fun w' => w'.cell? ⟨bx, 2, none⟩ = some (.slice E2 m2 d2) ∧ w'.cell? ⟨bw, 0, none⟩ = some (.int .i64 sys)) (ds := [10, 12]) #[false, false, false, false, false, false, false, false, false, false, false, false, false] (by kernel_rfl) rfl rfl ⟨k2, y0⟩ (fun hHeld => ?_)
       refine pure_ (i := 1) (N := some 44) (v := ?_) (a' := ?_) #[false, true, false, false, false, false, false, false, false, false, false, false, false] rfl rfl (by kernel_rfl) (fun _ _ _ h => h) (Or.inl ⟨by rfl, ?_⟩) ?_ ?_
       rotate_left
       ·intro w'
        go_simp
        with_reducible rfl
       rotate_left
       ·simp only [Act.put, List.setIfInBounds_toArray, List.set_cons_zero, List.set_cons_succ, i64_w, i32_w]
        rfl
       refine pure_ (i := 4) (N := some 47) (v := ?_) (a' := ?_) #[false, true, false, false, true, false, false, false, false, false, false, false, false] rfl rfl (by kernel_rfl) (fun _ _ _ h => h) (Or.inl ⟨by rfl, ?_⟩) ?_ ?_
       rotate_left
       ·intro w'
        go_simp
        with_reducible rfl
       rotate_left
       ·simp only [Act.put, List.setIfInBounds_toArray, List.set_cons_zero, List.set_cons_succ, i64_w, i32_w]
        rfl
       refine pure_ (i := 6) (N := some 49) (v := ?_) (a' := ?_) #[false, true, false, false, true, false, true, false, false, false, false, false, false] rfl rfl (by kernel_rfl) (fun _ _ _ h => h) (Or.inl ⟨by rfl, ?_⟩) ?_ ?_
       rotate_left
       ·intro w'
        go_simp
        with_reducible rfl
       rotate_left
       ·simp only [Act.put, List.setIfInBounds_toArray, List.set_cons_zero, List.set_cons_succ, i64_w, i32_w]
        rfl
       refine pure_ (i := 7) (N := some 50) (v := ?_) (a' := ?_) #[false, true, false, false, true, false, true, true, false, false, false, false, false] rfl rfl (by kernel_rfl) (fun _ _ _ h => h) (Or.inl ⟨by rfl, ?_⟩) ?_ ?_
       rotate_left
       ·intro w'
        go_simp
        with_reducible rfl
       rotate_left
       ·simp only [Act.put, List.setIfInBounds_toArray, List.set_cons_zero, List.set_cons_succ, i64_w, i32_w]
        rfl
       refine take_ (i := 2) (N := some 45) (v := ?_) (a' := ?_) #[false, true, true, false, true, false, true, true, false, false, false, false, false] rfl rfl (by kernel_rfl) (fun _ _ _ h => h) (Or.inl ⟨by rfl, ?_⟩) hHeld ?_ ?_
       rotate_left
       ·rintro w' ⟨s0, s1⟩
        go_simp
        with_reducible rfl
       rotate_left
       ·simp only [Act.put, List.setIfInBounds_toArray, List.set_cons_zero, List.set_cons_succ, i64_w, i32_w]
        rfl
       refine take_ (i := 5) (N := some 48) (v := ?_) (a' := ?_) #[false, true, true, false, true, true, true, true, false, false, false, false, false] rfl rfl (by kernel_rfl) (fun _ _ _ h => h) (Or.inl ⟨by rfl, ?_⟩) hHeld ?_ ?_
       rotate_left
       ·rintro w' ⟨s0, s1⟩
        go_simp
        with_reducible rfl
       rotate_left
       ·simp only [Act.put, List.setIfInBounds_toArray, List.set_cons_zero, List.set_cons_succ, i64_w, i32_w]
        rfl
       refine pure_ (i := 8) (N := some 51) (v := ?_) (a' := ?_) #[false, true, true, false, true, true, true, true, true, false, false, false, false] rfl rfl (by kernel_rfl) (fun _ _ _ h => h) (Or.inl ⟨by rfl, ?_⟩) ?_ ?_
       rotate_left
       ·intro w'
        go_simp
        with_reducible rfl
       rotate_left
       ·simp only [Act.put, List.setIfInBounds_toArray, List.set_cons_zero, List.set_cons_succ, i64_w, i32_w]
        rfl
       refine join_ (σ := Nat × (Option Addr × Nat) × Nat) 3 #[true, true, true, true, true, true, true, true, true, true, false, false, false] (fun s_ => [(43, .slice (some ⟨s_.1, 0, none⟩) 0 0), (46, .slice s_.2.1.1 m2 s_.2.1.2), (52, .slice (some ⟨s_.2.2, 0, none⟩) 1 1)]) (fun s_ w' => (w'.cell? ⟨bx, 2, none⟩ = some (.slice E2 m2 d2) ∧ w'.cell? ⟨bw, 0, none⟩ = some (.int .i64 sys)) ∧ Aside0 (Below w5.heap.size w5 w') ∧ Aside0 (Kd.R k99 99 w' w5.heap.size (fun k => w5.heap.size ≤ k) (.slice s_.2.1.1 m2 s_.2.1.2) pd) ∧ Aside0 (w'.heap[s_.2.2]? = some (.cells #[.int .i64 sys, .int .i64 sec, .string d] 99 (0, 0)) ∧ w5.heap.size ≤ s_.2.2)) ?_ ?_
       rotate_left
       ·intro hJ0_3_9
        refine join_ (σ := Nat × (Option Addr × Nat)) 4 #[true, true, true, true, true, true, true, true, true, false, false, false, false] (fun s_ => [(43, .slice (some ⟨s_.1, 0, none⟩) 0 0), (46, .slice s_.2.1 m2 s_.2.2)]) (fun s_ w' => (w'.cell? ⟨bx, 2, none⟩ = some (.slice E2 m2 d2) ∧ w'.cell? ⟨bw, 0, none⟩ = some (.int .i64 sys)) ∧ Aside0 (Below w5.heap.size w5 w') ∧ Aside0 (Kd.R k99 99 w' w5.heap.size (fun k => w5.heap.size ≤ k) (.slice s_.2.1 m2 s_.2.2) pd)) ?_ ?_
        rotate_left
        ·intro hJ0_3
         refine join_ (σ := Nat × Nat) 4 #[true, true, true, false, true, true, true, true, true, true, false, false, false] (fun s_ => [(43, .slice (some ⟨s_.1, 0, none⟩) 0 0), (52, .slice (some ⟨s_.2, 0, none⟩) 1 1)]) (fun s_ w' => (w'.cell? ⟨bx, 2, none⟩ = some (.slice E2 m2 d2) ∧ w'.cell? ⟨bw, 0, none⟩ = some (.int .i64 sys)) ∧ Aside0 (Below w5.heap.size w5 w') ∧ Aside0 (w'.heap[s_.1]? = some (.cells #[] 99 (0, 0)) ∧ w5.heap.size ≤ s_.1) ∧ Aside0 (w'.heap[s_.2]? = some (.cells #[.int .i64 sys, .int .i64 sec, .string d] 99 (0, 0)) ∧ w5.heap.size ≤ s_.2) ∧ Aside0 (s_.1 ≠ s_.2)) ?_ ?_
         rotate_left
         ·intro hJ0_9
          refine join_ (σ := Nat) 5 #[true, true, true, false, true, true, true, true, true, false, false, false, false] (fun s_ => [(43, .slice (some ⟨s_, 0, none⟩) 0 0)]) (fun s_ w' => (w'.cell? ⟨bx, 2, none⟩ = some (.slice E2 m2 d2) ∧ w'.cell? ⟨bw, 0, none⟩ = some (.int .i64 sys)) ∧ Aside0 (Below w5.heap.size w5 w') ∧ Aside0 (w'.heap[s_]? = some (.cells #[] 99 (0, 0)) ∧ w5.heap.size ≤ s_)) ?_ ?_
          rotate_left
          ·intro hJ0
           refine join_ (σ := Nat) 5 #[false, true, true, false, true, true, true, true, true, true, false, false, false] (fun s_ => [(52, .slice (some ⟨s_, 0, none⟩) 1 1)]) (fun s_ w' => (w'.cell? ⟨bx, 2, none⟩ = some (.slice E2 m2 d2) ∧ w'.cell? ⟨bw, 0, none⟩ = some (.int .i64 sys)) ∧ Aside0 (Below w5.heap.size w5 w') ∧ Aside0 (w'.heap[s_]? = some (.cells #[.int .i64 sys, .int .i64 sec, .string d] 99 (0, 0)) ∧ w5.heap.size ≤ s_)) ?_ ?_
           rotate_left
           ·intro hJ9
            refine two_ (i := 0) (j := 9) (Ni := some 43) (Nj := some 52) #[true, true, true, false, true, true, true, true, true, false, false, false, false] #[false, true, true, false, true, true, true, true, true, true, false, false, false] rfl rfl rfl rfl (by kernel_rfl) (by decide) (by decide) (fun K hK => ?_) (fun K hK => ?_)
            ·skip
             refine value_ (w1 := ?_) (v := ?_) (by rfl) rfl ?_ ?_
             rotate_left 2
             ·go_simp
              constructor
              ·rfl
              ·rfl
             refine hK.out _ _ (hold2 (below_alloc (Below.refl _ _) _) hHeld) (fun hHeld => ?_)
             clear hK K
             refine norm_ (a' := ?_) ?_ ?_
             rotate_left
             ·show Act.put _ (some 43) _ = _
              simp only [Act.put, List.setIfInBounds_toArray, List.set_cons_zero, List.set_cons_succ, i64_w, i32_w]
              rfl
             exact norm_ (by first | (simp only [putAll, Act.put, List.setIfInBounds_toArray, List.set_cons_zero, List.set_cons_succ]; done) | (simp only [putAll, Act.put, List.setIfInBounds_toArray, List.set_cons_zero, List.set_cons_succ]; rfl)) (hJ0 w5.drew.heap.size _ ⟨hHeld, ⟨HBe.out.trans ((below_alloc (Below.refl _ _) _).mono HBe.out.size)⟩, ⟨⟨blk_new _ _, HBe.out.size⟩⟩⟩)
            ·skip
             refine value_ (w1 := ?_) (v := ?_) (by rfl) rfl ?_ ?_
             rotate_left 2
             ·go_simp
              constructor
              ·rfl
              ·rfl
             refine hK.out _ _ (hold2 (below_alloc (Below.refl _ _) _) hHeld) (fun hHeld => ?_)
             clear hK K
             refine norm_ (a' := ?_) ?_ ?_
             rotate_left
             ·show Act.put _ (some 52) _ = _
              simp only [Act.put, List.setIfInBounds_toArray, List.set_cons_zero, List.set_cons_succ, i64_w, i32_w]
              rfl
             exact norm_ (by first | (simp only [putAll, Act.put, List.setIfInBounds_toArray, List.set_cons_zero, List.set_cons_succ]; done) | (simp only [putAll, Act.put, List.setIfInBounds_toArray, List.set_cons_zero, List.set_cons_succ]; rfl)) (hJ9 w5.drew.heap.size _ ⟨hHeld, ⟨HBe.out.trans ((below_alloc (Below.refl _ _) _).mono HBe.out.size)⟩, ⟨⟨blk_new _ _, HBe.out.size⟩⟩⟩)
           ·skip
            rintro g9 w9 ⟨hHeld, HBe, H9⟩
            refine norm_ (a' := ?_) ?_ ?_
            rotate_left
            ·simp only [putAll, Act.put, List.setIfInBounds_toArray, List.set_cons_zero, List.set_cons_succ]
             rfl
            refine one_ (i := 0) (N := some 43) #[true, true, true, false, true, true, true, true, true, true, false, false, false] rfl rfl (by kernel_rfl) (by decide) (fun K hK => ?_)
            refine value_ (w1 := ?_) (v := ?_) (by rfl) rfl ?_ ?_
            rotate_left 2
            ·go_simp
             constructor
             ·rfl
             ·rfl
            refine hK.out _ _ (hold2 (below_alloc (Below.refl _ _) _) hHeld) (fun hHeld => ?_)
            clear hK K
            refine norm_ (a' := ?_) ?_ ?_
            rotate_left
            ·show Act.put _ (some 43) _ = _
             simp only [Act.put, List.setIfInBounds_toArray, List.set_cons_zero, List.set_cons_succ, i64_w, i32_w]
             rfl
            exact norm_ (by first | (simp only [putAll, Act.put, List.setIfInBounds_toArray, List.set_cons_zero, List.set_cons_succ]; done) | (simp only [putAll, Act.put, List.setIfInBounds_toArray, List.set_cons_zero, List.set_cons_succ]; rfl)) (hJ0_9 (w9.heap.size, g9) _ ⟨hHeld, ⟨HBe.out.trans ((below_alloc (Below.refl _ _) _).mono HBe.out.size)⟩, ⟨⟨blk_new _ _, HBe.out.size⟩⟩, ⟨⟨blk_below H9.out.1 (below_alloc (Below.refl _ _) _), H9.out.2⟩⟩, ⟨fun e => by have := blk_lt H9.out.1; omega⟩⟩)
          ·skip
           rintro e0 w0 ⟨hHeld, HBe, H0⟩
           refine norm_ (a' := ?_) ?_ ?_
           rotate_left
           ·simp only [putAll, Act.put, List.setIfInBounds_toArray, List.set_cons_zero, List.set_cons_succ]
            rfl
           refine two_ (i := 3) (j := 9) (Ni := some 46) (Nj := some 52) #[true, true, true, true, true, true, true, true, true, false, false, false, false] #[true, true, true, false, true, true, true, true, true, true, false, false, false] rfl rfl rfl rfl (by kernel_rfl) (by decide) (by decide) (fun K hK => ?_) (fun K hK => ?_)
           ·skip
            refine Kd.R_append_rows_step k99 (w0 := w5) w5.heap.size (by rfl) (.tmp 43) (.tmp 45) 28 99 (.agg #[.int .i64 0, .int .i64 0, .string ⟨#[]⟩]) 32 rfl Try.underlying28 info99 rfl (by decide) (by omega) _ [] pd E2 m2 d2 (fun k => w5.heap.size ≤ k) (fun _ => False) rfl rfl (empty_own' H0.out.1 H0.out.2) (Kd.C_below HC2.out HBe.out) (fun x cs h => by rw [k99_open h]; exact k99_mkM _ _ _ x) (fun _ h => h.elim) (fun k hk => Nat.le_trans HBe.out.size hk) HBe.out HBe.out.size (by simp; omega) ?_
            intro v1 w1 hR1 hb1 hg1 hat1
            rw [List.nil_append] at hR1
            obtain ⟨A9, c9, hv1⟩ := Kd.R_slice hR1
            rw [← HM2.out] at hv1
            subst hv1
            refine hK.out _ _ ⟨((hb1.cell (World.block_lt_of_cell? _ _ HK2.out)).trans HK2.out), ((hb1.cell (World.block_lt_of_cell? _ _ HY0.out)).trans HY0.out)⟩ (fun hHeld => ?_)
            clear hK K
            refine norm_ (a' := ?_) ?_ ?_
            rotate_left
            ·show Act.put _ (some 46) _ = _
             simp only [Act.put, List.setIfInBounds_toArray, List.set_cons_zero, List.set_cons_succ, i64_w, i32_w]
             rfl
            exact norm_ (by first | (simp only [putAll, Act.put, List.setIfInBounds_toArray, List.set_cons_zero, List.set_cons_succ]; done) | (simp only [putAll, Act.put, List.setIfInBounds_toArray, List.set_cons_zero, List.set_cons_succ]; rfl)) (hJ0_3 (e0, (A9, c9)) _ ⟨hHeld, ⟨hb1⟩, ⟨hR1⟩⟩)
           ·skip
            refine value_ (w1 := ?_) (v := ?_) (by rfl) rfl ?_ ?_
            rotate_left 2
            ·go_simp
             constructor
             ·rfl
             ·rfl
            refine hK.out _ _ (hold2 (below_alloc (Below.refl _ _) _) hHeld) (fun hHeld => ?_)
            clear hK K
            refine norm_ (a' := ?_) ?_ ?_
            rotate_left
            ·show Act.put _ (some 52) _ = _
             simp only [Act.put, List.setIfInBounds_toArray, List.set_cons_zero, List.set_cons_succ, i64_w, i32_w]
             rfl
            exact norm_ (by first | (simp only [putAll, Act.put, List.setIfInBounds_toArray, List.set_cons_zero, List.set_cons_succ]; done) | (simp only [putAll, Act.put, List.setIfInBounds_toArray, List.set_cons_zero, List.set_cons_succ]; rfl)) (hJ0_9 (e0, w0.heap.size) _ ⟨hHeld, ⟨HBe.out.trans ((below_alloc (Below.refl _ _) _).mono HBe.out.size)⟩, ⟨⟨blk_below H0.out.1 (below_alloc (Below.refl _ _) _), H0.out.2⟩⟩, ⟨⟨blk_new _ _, HBe.out.size⟩⟩, ⟨fun e => by have := blk_lt H0.out.1; omega⟩⟩)
         ·skip
          rintro ⟨e0, g9⟩ w0_9 ⟨hHeld, HBe, H0, H9, H09⟩
          refine norm_ (a' := ?_) ?_ ?_
          rotate_left
          ·simp only [putAll, Act.put, List.setIfInBounds_toArray, List.set_cons_zero, List.set_cons_succ]
           rfl
          refine one_ (i := 3) (N := some 46) #[true, true, true, true, true, true, true, true, true, true, false, false, false] rfl rfl (by kernel_rfl) (by decide) (fun K hK => ?_)
          refine Kd.R_append_rows_step k99 (w0 := w5) w5.heap.size (by rfl) (.tmp 43) (.tmp 45) 28 99 (.agg #[.int .i64 0, .int .i64 0, .string ⟨#[]⟩]) 32 rfl Try.underlying28 info99 rfl (by decide) (by omega) _ [] pd E2 m2 d2 (fun k => w5.heap.size ≤ k) (fun _ => False) rfl rfl (empty_own' H0.out.1 H0.out.2) (Kd.C_below HC2.out HBe.out) (fun x cs h => by rw [k99_open h]; exact k99_mkM _ _ _ x) (fun _ h => h.elim) (fun k hk => Nat.le_trans HBe.out.size hk) HBe.out HBe.out.size (by simp; omega) ?_
          intro v1 w1 hR1 hb1 hg1 hat1
          rw [List.nil_append] at hR1
          obtain ⟨A9, c9, hv1⟩ := Kd.R_slice hR1
          rw [← HM2.out] at hv1
          subst hv1
          refine hK.out _ _ ⟨((hb1.cell (World.block_lt_of_cell? _ _ HK2.out)).trans HK2.out), ((hb1.cell (World.block_lt_of_cell? _ _ HY0.out)).trans HY0.out)⟩ (fun hHeld => ?_)
          clear hK K
          refine norm_ (a' := ?_) ?_ ?_
          rotate_left
          ·show Act.put _ (some 46) _ = _
           simp only [Act.put, List.setIfInBounds_toArray, List.set_cons_zero, List.set_cons_succ, i64_w, i32_w]
           rfl
          exact norm_ (by first | (simp only [putAll, Act.put, List.setIfInBounds_toArray, List.set_cons_zero, List.set_cons_succ]; done) | (simp only [putAll, Act.put, List.setIfInBounds_toArray, List.set_cons_zero, List.set_cons_succ]; rfl)) (hJ0_3_9 (e0, (A9, c9), g9) _ ⟨hHeld, ⟨hb1⟩, ⟨hR1⟩, ⟨⟨(hg1.block g9 (blk_lt H9.out.1) (fun e => H09.out (Option.some.inj e).symm)).trans H9.out.1, H9.out.2⟩⟩⟩)
        ·skip
         rintro ⟨e0, p3⟩ w0_3 ⟨hHeld, HBe, H3⟩
         refine norm_ (a' := ?_) ?_ ?_
         rotate_left
         ·simp only [putAll, Act.put, List.setIfInBounds_toArray, List.set_cons_zero, List.set_cons_succ]
          rfl
         refine one_ (i := 9) (N := some 52) #[true, true, true, true, true, true, true, true, true, true, false, false, false] rfl rfl (by kernel_rfl) (by decide) (fun K hK => ?_)
         refine value_ (w1 := ?_) (v := ?_) (by rfl) rfl ?_ ?_
         rotate_left 2
         ·go_simp
          constructor
          ·rfl
          ·rfl
         refine hK.out _ _ (hold2 (below_alloc (Below.refl _ _) _) hHeld) (fun hHeld => ?_)
         clear hK K
         refine norm_ (a' := ?_) ?_ ?_
         rotate_left
         ·show Act.put _ (some 52) _ = _
          simp only [Act.put, List.setIfInBounds_toArray, List.set_cons_zero, List.set_cons_succ, i64_w, i32_w]
          rfl
         exact norm_ (by first | (simp only [putAll, Act.put, List.setIfInBounds_toArray, List.set_cons_zero, List.set_cons_succ]; done) | (simp only [putAll, Act.put, List.setIfInBounds_toArray, List.set_cons_zero, List.set_cons_succ]; rfl)) (hJ0_3_9 (e0, p3, w0_3.heap.size) _ ⟨hHeld, ⟨HBe.out.trans ((below_alloc (Below.refl _ _) _).mono HBe.out.size)⟩, ⟨Kd.R_below H3.out (below_alloc (Below.refl _ _) _)⟩, ⟨⟨blk_new _ _, HBe.out.size⟩⟩⟩)
       rintro ⟨e0, p3, g9⟩ w0_3_9 ⟨hHeld, HBe, H3, H9⟩
       refine norm_ (a' := ?_) ?_ ?_
       rotate_left
       ·simp only [putAll, Act.put, List.setIfInBounds_toArray, List.set_cons_zero, List.set_cons_succ]
        rfl
       refine last_ (i := 10) (N := some 53) #[true, true, true, true, true, true, true, true, true, true, true, false, false] rfl rfl (by kernel_rfl) (by decide) (fun K hK => ?_)
       refine Kd.R_append_rows_step k99 (w0 := w5) w5.heap.size (by rfl) (.tmp 46) (.tmp 52) 28 99 (.agg #[.int .i64 0, .int .i64 0, .string ⟨#[]⟩]) 32 rfl Try.underlying28 info99 rfl (by decide) (by omega) _ pd [⟨sys, sec, d⟩] (some ⟨g9, 0, none⟩) 1 1 (fun k => w5.heap.size ≤ k) (fun _ => False) rfl rfl H3.out (one99 H9.out.1) (fun x cs h => by rw [k99_open h]; exact k99_mkM _ _ _ x) (fun _ h => h.elim) (fun k hk => Nat.le_trans HBe.out.size hk) HBe.out HBe.out.size (by rw [← HM2.out]; omega) ?_
       intro v1 w8 hR8 hb8 hg8 hat8
       obtain ⟨A8, c8, hv8⟩ := Kd.R_slice hR8
       replace hv8 : v1 = .slice A8 (m2 + 1) c8 := by rw [hv8, List.length_append, ← HM2.out]; rfl
       subst hv8
       have b8 := (hb8.block bx (blk_lt G0.out)).trans G0.out
       have g2 : w8.cell? ⟨bx, 2, none⟩ = some (.slice E2 m2 d2) := by rw [blk_cell b8]; rfl
       have gf : w8.frozen? ⟨bx, 2, none⟩ = false := blk_frozen b8 2
       have B8 := Aside0.mk b8
       have HR8 := Aside0.mk hR8
       have HB8 := Aside0.mk hb8
       clear hR8 hb8 hg8 hat8 b8
       refine hK.out _ _ ?_
       clear hK K
       refine norm_ (a' := ?_) ?_ ?_
       rotate_left
       ·show Act.put _ (some 53) _ = _
        simp only [Act.put, List.setIfInBounds_toArray, List.set_cons_zero, List.set_cons_succ, i64_w, i32_w]
        rfl
       refine pure_ (i := 11) (N := some 54) (v := ?_) (a' := ?_) #[true, true, true, true, true, true, true, true, true, true, true, true, false] rfl rfl (by kernel_rfl) (fun _ _ _ h => h) (Or.inl ⟨by rfl, ?_⟩) ?_ ?_
       rotate_left
       ·intro w'
        go_simp
        with_reducible rfl
       rotate_left
       ·simp only [Act.put, List.setIfInBounds_toArray, List.set_cons_zero, List.set_cons_succ, i64_w, i32_w]
        rfl
       refine last_ (i := 12) (N := none) #[true, true, true, true, true, true, true, true, true, true, true, true, true] rfl rfl (by kernel_rfl) (by decide) (fun K hK => ?_)
       refine skip_ (w1 := ?_) (by rfl) rfl ?_ ?_
       rotate_left
       ·go_simp
        rfl
       refine hK.out _ _ ?_
       clear hK K
       refine done_ (by kernel_rfl) ?_
       obtain ⟨w7, hw7⟩ : ∃ w7, w7 = w8.setCell ⟨bx, 2, none⟩ (.slice A8 (m2 + 1) c8) := ⟨_, rfl⟩
       have hf7 : ∀ k, k ≠ bx → w7.heap[k]? = w8.heap[k]? := fun k hk => by rw [hw7]; exact Below.heap_setCell _ _ _ _ hk
       have g0 : w7.heap[bx]? = some (.cells #[.slice E0 m0 d0, .slice E1 m1 d1, .slice A8 (m2 + 1) c8, .slice E3 m3 d3, .bool ma, .int .i64 gu, .slice E6 m6 d6] 31 (0, 0)) := by rw [hw7]; exact blk_put B8.out 2 _ rfl
       have g1 := (hf7 rb ne2).trans ((HB8.out.block rb (blk_lt G1.out)).trans G1.out)
       have hbx5 := blk_lt G0.out
       have hrx5 := blk_lt G1.out
       have hb7 : Below W.heap.size W w7 := by rw [hw7]; exact (HBW.out.trans (HB8.out.mono HBW.out.size)).setCell (p := ⟨bx, 2, none⟩) LB.out.1 _
       have HF7 := Aside0.mk hf7
       have HX5 := Aside0.mk (show bx < w5.heap.size ∧ rb < w5.heap.size from ⟨hbx5, hrx5⟩)
       rw [← hw7]
       clear hw7 hf7 g2 gf k0 k1 k2 k3 k4 k5 k6 z0 z1 z2 z3 z4 z5 z6 y0 y1 r0 r1 r2 r3 r4 r5 r6 s0 s1 s2 s3 s4 s5 s6 G0 GW HBW hbx5 hrx5 hHeld
       obtain ⟨k0, k1, k2, k3, k4, k5, k6⟩ := cells7 g0
       obtain ⟨z0, z1, z2, z3, z4, z5, z6⟩ := froz7 g0
       obtain ⟨r0, r1, r2, r3, r4, r5, r6⟩ := cells7 g1
       obtain ⟨s0, s1, s2, s3, s4, s5, s6⟩ := froz7 g1
       have G1 := Aside0.mk g1
       have HB7 := Aside0.mk hb7
       clear g0 g1 hb7
       go_wp2_with fail
       have hbC := set7_below HB7.out LB.out.2.2.1 (.slice E0 m0 d0) (.slice E1 m1 d1) (.slice A8 (m2 + 1) c8) (.slice E3 m3 d3) (.bool ma) (.int .i64 gu) (.slice E6 m6 d6)
       refine bodyPost_ret (results_ct rfl _ _ rb 31 #[.slice E0 m0 d0, .slice E1 m1 d1, .slice A8 (m2 + 1) c8, .slice E3 m3 d3, .bool ma, .int .i64 gu, .slice E6 m6 d6] (0, 0) _ rfl (set7_blk G1.out (.slice E0 m0 d0) (.slice E1 m1 d1) (.slice A8 (m2 + 1) c8) (.slice E3 m3 d3) (.bool ma) (.int .i64 gu) (.slice E6 m6 d6)) Try.underlying31 rfl (by kernel_rfl)) rfl ?_
       refine ⟨_, rfl, ?_, hbC⟩
       have hf : ∀ k, k ≠ bx → k ≠ rb → (set7 w7 rb (.slice E0 m0 d0) (.slice E1 m1 d1) (.slice A8 (m2 + 1) c8) (.slice E3 m3 d3) (.bool ma) (.int .i64 gu) (.slice E6 m6 d6)).heap[k]? = w8.heap[k]? := fun k h1 h2 => (set7_far w7 rb (.slice E0 m0 d0) (.slice E1 m1 d1) (.slice A8 (m2 + 1) c8) (.slice E3 m3 d3) (.bool ma) (.int .i64 gu) (.slice E6 m6 d6) k h2).trans (HF7.out k h1)
       have hV := Kd.V_mono (Kd.R_V (base' := 0) (Kd.R_step HR8.out (fun k hk _ => hf k (fun e => by have := HX5.out.1; omega) (fun e => by have := HX5.out.2; omega)))) (ok' := fun k => ok k ∨ W.heap.size ≤ k) (fun k hk => Or.inr (Nat.le_trans (Nat.le_trans LB.out.1 (Nat.le_of_lt HX5.out.1)) hk))
       obtain ⟨gl', gu', gs', x4, x5, hA2⟩ := HR4.out.agg
       have mv : ∀ {α : Type} {d : Kd α} {e : Nat} {u : Value} {ys : List α}, Kd.V d e w45 0 (fun k => (ok k ∧ k < W.heap.size) ∨ w4.heap.size ≤ k) u ys → Kd.V d e (set7 w7 rb (.slice E0 m0 d0) (.slice E1 m1 d1) (.slice A8 (m2 + 1) c8) (.slice E3 m3 d3) (.bool ma) (.int .i64 gu) (.slice E6 m6 d6)) 0 (fun k => ok k ∨ W.heap.size ≤ k) u ys := fun hu =>
        Kd.V_mono (Kd.V_step hu (fun k hk hlt => (hf k (HOK.out k hk).1 (HOK.out k hk).2.1).trans ((HB8.out.block k (by rw [HS5.out]; exact hlt)).trans (HF5.out k (HOK.out k hk).1)))) (fun k hk => (HOK.out k hk).2.2)
       rw [← HS2.out]
       have hp : (pushS S2 ⟨sys, sec, d⟩).pend = pd ++ [⟨sys, sec, d⟩] := by rw [HPD.out]; rfl
       exact ⟨_, _, _, _, _, gl', gu, gs', { hv := by rw [x4]; rfl, h0 := mv hA2.h0, h1 := mv hA2.h1, h2 := by rw [hp]; exact hV, h3 := mv hA2.h3, h6 := mv hA2.h6, fl5 := hA2.fl5, fok := hA2.fok, uok := by injection x5 with _ x5; rw [x5]; exact hA2.uok }⟩
   ·rw [decide_eq_false hin] at HT
    have hu : writeS S sys ep sec d = (2, S) := by unfold writeS; rw [if_pos ⟨HPB.out, hd⟩, if_neg (fun z => hin ⟨z.1, by rw [HEQ0.out]; exact z.2⟩)]
    rw [hu]
    clear hu hd hin
    go_enter Try.func28, Try.ntmps28
    go_wp2_with fail
    obtain ⟨w1, hw1⟩ : ∃ w1, w1 = ((W.alloc (.cells #[.slice A0 n0 c0, .slice A1 n1 c1, .slice A2 n2 c2, .slice A3 n3 c3, .bool fa, .int .i64 fu, .slice A6 n6 c6] 31)).alloc (.cells #[.int .i64 sys, .int .i64 ep] 35)).alloc (.cells #[.slice none 0 0, .slice none 0 0, .slice none 0 0, .slice none 0 0, .bool false, .int .i64 0, .slice none 0 0] 31) := ⟨_, rfl⟩
    obtain ⟨g0, gw, g1, hb1⟩ := three W (.cells #[.slice A0 n0 c0, .slice A1 n1 c1, .slice A2 n2 c2, .slice A3 n3 c3, .bool fa, .int .i64 fu, .slice A6 n6 c6] 31) (.cells #[.int .i64 sys, .int .i64 ep] 35) (.cells #[.slice none 0 0, .slice none 0 0, .slice none 0 0, .slice none 0 0, .bool false, .int .i64 0, .slice none 0 0] 31)
    rw [← hw1] at g0 gw g1 hb1 ⊢
    obtain ⟨bx, hbx⟩ : ∃ bx, bx = W.heap.size := ⟨_, rfl⟩
    obtain ⟨bw, hbw⟩ : ∃ bw, bw = W.heap.size + 1 := ⟨_, rfl⟩
    obtain ⟨rb, hrb⟩ : ∃ rb, rb = W.heap.size + 1 + 1 := ⟨_, rfl⟩
    rw [← hrb] at g1 ⊢
    rw [← hbw] at gw ⊢
    rw [show (Value.pointer (some ⟨W.heap.size, 0, none⟩)) = .pointer (some ⟨bx, 0, none⟩) by rw [hbx]]
    rw [← hbx] at g0
    have hs1 : w1.heap.size = W.heap.size + 1 + 1 + 1 := by rw [hw1]; simp
    have LB := Aside0.mk (show W.heap.size ≤ bx ∧ W.heap.size ≤ bw ∧ W.heap.size ≤ rb ∧ bx ≠ rb ∧ bw ≠ rb ∧ bx ≠ bw ∧ bx < w1.heap.size ∧ rb < w1.heap.size ∧ bw < w1.heap.size from ⟨by omega, by omega, by omega, by omega, by omega, by omega, by omega, by omega, by omega⟩)
    have ne1 : bx ≠ rb := LB.out.2.2.2.1
    have ne2 : rb ≠ bx := fun e => ne1 e.symm
    have HBW := Aside0.mk hb1
    obtain ⟨k0, k1, k2, k3, k4, k5, k6⟩ := cells7 g0
    obtain ⟨z0, z1, z2, z3, z4, z5, z6⟩ := froz7 g0
    have y0 : w1.cell? ⟨bw, 0, none⟩ = some (.int .i64 sys) := by rw [blk_cell gw]; rfl
    have y1 : w1.cell? ⟨bw, 1, none⟩ = some (.int .i64 ep) := by rw [blk_cell gw]; rfl
    obtain ⟨r0, r1, r2, r3, r4, r5, r6⟩ := cells7 g1
    obtain ⟨s0, s1, s2, s3, s4, s5, s6⟩ := froz7 g1
    have G0 := Aside0.mk g0
    have GW := Aside0.mk gw
    have G1 := Aside0.mk g1
    clear g0 gw g1
    clear hw1 hb1 hbx hbw hrb hs1
    refine (HWR.out w1).mono ?_
    rintro e w2 ⟨rfl, hb⟩
    have g0 := blk_below G0.out hb
    have gw := blk_below GW.out hb
    have g1 := blk_below G1.out hb
    have hbw := HBW.out.trans (hb.mono HBW.out.size)
    have SZ12 : w1.heap.size ≤ w2.heap.size := hb.size
    clear k0 k1 k2 k3 k4 k5 k6 z0 z1 z2 z3 z4 z5 z6 y0 y1 r0 r1 r2 r3 r4 r5 r6 s0 s1 s2 s3 s4 s5 s6 G0 GW G1 HBW
    have HBW := Aside0.mk hbw
    obtain ⟨k0, k1, k2, k3, k4, k5, k6⟩ := cells7 g0
    obtain ⟨z0, z1, z2, z3, z4, z5, z6⟩ := froz7 g0
    have y0 : w2.cell? ⟨bw, 0, none⟩ = some (.int .i64 sys) := by rw [blk_cell gw]; rfl
    have y1 : w2.cell? ⟨bw, 1, none⟩ = some (.int .i64 ep) := by rw [blk_cell gw]; rfl
    obtain ⟨r0, r1, r2, r3, r4, r5, r6⟩ := cells7 g1
    obtain ⟨s0, s1, s2, s3, s4, s5, s6⟩ := froz7 g1
    have G0 := Aside0.mk g0
    have GW := Aside0.mk gw
    have G1 := Aside0.mk g1
    clear g0 gw g1
    clear hb hbw
    go_wp2_with fail
    refine (HT.out w2).mono ?_
    rintro e w3 ⟨rfl, hb⟩
    have g0 := blk_below G0.out hb
    have gw := blk_below GW.out hb
    have g1 := blk_below G1.out hb
    have hbw := HBW.out.trans (hb.mono HBW.out.size)
    have SZ23 : w2.heap.size ≤ w3.heap.size := hb.size
    clear k0 k1 k2 k3 k4 k5 k6 z0 z1 z2 z3 z4 z5 z6 y0 y1 r0 r1 r2 r3 r4 r5 r6 s0 s1 s2 s3 s4 s5 s6 G0 GW G1 HBW
    have HBW := Aside0.mk hbw
    obtain ⟨k0, k1, k2, k3, k4, k5, k6⟩ := cells7 g0
    obtain ⟨z0, z1, z2, z3, z4, z5, z6⟩ := froz7 g0
    have y0 : w3.cell? ⟨bw, 0, none⟩ = some (.int .i64 sys) := by rw [blk_cell gw]; rfl
    have y1 : w3.cell? ⟨bw, 1, none⟩ = some (.int .i64 ep) := by rw [blk_cell gw]; rfl
    obtain ⟨r0, r1, r2, r3, r4, r5, r6⟩ := cells7 g1
    obtain ⟨s0, s1, s2, s3, s4, s5, s6⟩ := froz7 g1
    have G0 := Aside0.mk g0
    have GW := Aside0.mk gw
    have G1 := Aside0.mk g1
    clear g0 gw g1
    clear hb hbw
    go_wp2_with fail
    have hbC := set7_below HBW.out LB.out.2.2.1 (.slice A0 n0 c0) (.slice A1 n1 c1) (.slice A2 n2 c2) (.slice A3 n3 c3) (.bool fa) (.int .i64 fu) (.slice A6 n6 c6)
    refine bodyPost_ret (results_ct rfl _ _ rb 31 #[.slice A0 n0 c0, .slice A1 n1 c1, .slice A2 n2 c2, .slice A3 n3 c3, .bool fa, .int .i64 fu, .slice A6 n6 c6] (0, 0) _ rfl (set7_blk G1.out (.slice A0 n0 c0) (.slice A1 n1 c1) (.slice A2 n2 c2) (.slice A3 n3 c3) (.bool fa) (.int .i64 fu) (.slice A6 n6 c6)) Try.underlying31 rfl (by kernel_rfl)) rfl ?_
    refine ⟨_, rfl, ?_, hbC⟩
    exact (HR.out.below hbC).mono (fun k hk _ => Or.inl hk)
  ·have hd2 : ((d.size : Int) != 140) = true := bne_iff_ne.2 (fun z => hd (by omega))
   have hu : writeS S sys ep sec d = (1, S) := by unfold writeS; rw [if_neg (fun z => hd z.2)]
   rw [hu]
   clear hu hd
   go_enter Try.func28, Try.ntmps28
   go_wp2_with fail
   obtain ⟨w1, hw1⟩ : ∃ w1, w1 = ((W.alloc (.cells #[.slice A0 n0 c0, .slice A1 n1 c1, .slice A2 n2 c2, .slice A3 n3 c3, .bool fa, .int .i64 fu, .slice A6 n6 c6] 31)).alloc (.cells #[.int .i64 sys, .int .i64 ep] 35)).alloc (.cells #[.slice none 0 0, .slice none 0 0, .slice none 0 0, .slice none 0 0, .bool false, .int .i64 0, .slice none 0 0] 31) := ⟨_, rfl⟩
   obtain ⟨g0, gw, g1, hb1⟩ := three W (.cells #[.slice A0 n0 c0, .slice A1 n1 c1, .slice A2 n2 c2, .slice A3 n3 c3, .bool fa, .int .i64 fu, .slice A6 n6 c6] 31) (.cells #[.int .i64 sys, .int .i64 ep] 35) (.cells #[.slice none 0 0, .slice none 0 0, .slice none 0 0, .slice none 0 0, .bool false, .int .i64 0, .slice none 0 0] 31)
   rw [← hw1] at g0 gw g1 hb1 ⊢
   obtain ⟨bx, hbx⟩ : ∃ bx, bx = W.heap.size := ⟨_, rfl⟩
   obtain ⟨bw, hbw⟩ : ∃ bw, bw = W.heap.size + 1 := ⟨_, rfl⟩
   obtain ⟨rb, hrb⟩ : ∃ rb, rb = W.heap.size + 1 + 1 := ⟨_, rfl⟩
   rw [← hrb] at g1 ⊢
   rw [← hbw] at gw ⊢
   rw [show (Value.pointer (some ⟨W.heap.size, 0, none⟩)) = .pointer (some ⟨bx, 0, none⟩) by rw [hbx]]
   rw [← hbx] at g0
   have hs1 : w1.heap.size = W.heap.size + 1 + 1 + 1 := by rw [hw1]; simp
   have LB := Aside0.mk (show W.heap.size ≤ bx ∧ W.heap.size ≤ bw ∧ W.heap.size ≤ rb ∧ bx ≠ rb ∧ bw ≠ rb ∧ bx ≠ bw ∧ bx < w1.heap.size ∧ rb < w1.heap.size ∧ bw < w1.heap.size from ⟨by omega, by omega, by omega, by omega, by omega, by omega, by omega, by omega, by omega⟩)
   have ne1 : bx ≠ rb := LB.out.2.2.2.1
   have ne2 : rb ≠ bx := fun e => ne1 e.symm
   have HBW := Aside0.mk hb1
   obtain ⟨k0, k1, k2, k3, k4, k5, k6⟩ := cells7 g0
   obtain ⟨z0, z1, z2, z3, z4, z5, z6⟩ := froz7 g0
   have y0 : w1.cell? ⟨bw, 0, none⟩ = some (.int .i64 sys) := by rw [blk_cell gw]; rfl
   have y1 : w1.cell? ⟨bw, 1, none⟩ = some (.int .i64 ep) := by rw [blk_cell gw]; rfl
   obtain ⟨r0, r1, r2, r3, r4, r5, r6⟩ := cells7 g1
   obtain ⟨s0, s1, s2, s3, s4, s5, s6⟩ := froz7 g1
   have G0 := Aside0.mk g0
   have GW := Aside0.mk gw
   have G1 := Aside0.mk g1
   clear g0 gw g1
   clear hw1 hb1 hbx hbw hrb hs1
   refine (HWR.out w1).mono ?_
   rintro e w2 ⟨rfl, hb⟩
   have g0 := blk_below G0.out hb
   have gw := blk_below GW.out hb
   have g1 := blk_below G1.out hb
   have hbw := HBW.out.trans (hb.mono HBW.out.size)
   have SZ12 : w1.heap.size ≤ w2.heap.size := hb.size
   clear k0 k1 k2 k3 k4 k5 k6 z0 z1 z2 z3 z4 z5 z6 y0 y1 r0 r1 r2 r3 r4 r5 r6 s0 s1 s2 s3 s4 s5 s6 G0 GW G1 HBW
   have HBW := Aside0.mk hbw
   obtain ⟨k0, k1, k2, k3, k4, k5, k6⟩ := cells7 g0
   obtain ⟨z0, z1, z2, z3, z4, z5, z6⟩ := froz7 g0
   have y0 : w2.cell? ⟨bw, 0, none⟩ = some (.int .i64 sys) := by rw [blk_cell gw]; rfl
   have y1 : w2.cell? ⟨bw, 1, none⟩ = some (.int .i64 ep) := by rw [blk_cell gw]; rfl
   obtain ⟨r0, r1, r2, r3, r4, r5, r6⟩ := cells7 g1
   obtain ⟨s0, s1, s2, s3, s4, s5, s6⟩ := froz7 g1
   have G0 := Aside0.mk g0
   have GW := Aside0.mk gw
   have G1 := Aside0.mk g1
   clear g0 gw g1
   clear hb hbw
   go_wp2_with fail
   have hbC := set7_below HBW.out LB.out.2.2.1 (.slice A0 n0 c0) (.slice A1 n1 c1) (.slice A2 n2 c2) (.slice A3 n3 c3) (.bool fa) (.int .i64 fu) (.slice A6 n6 c6)
   refine bodyPost_ret (results_ct rfl _ _ rb 31 #[.slice A0 n0 c0, .slice A1 n1 c1, .slice A2 n2 c2, .slice A3 n3 c3, .bool fa, .int .i64 fu, .slice A6 n6 c6] (0, 0) _ rfl (set7_blk G1.out (.slice A0 n0 c0) (.slice A1 n1 c1) (.slice A2 n2 c2) (.slice A3 n3 c3) (.bool fa) (.int .i64 fu) (.slice A6 n6 c6)) Try.underlying31 rfl (by kernel_rfl)) rfl ?_
   refine ⟨_, rfl, ?_, hbC⟩
   exact (HR.out.below hbC).mono (fun k hk _ => Or.inl hk)
end
end Go.Proofs.Ytflajmgichdhhaa.PG
namespace Go.Proofs.Ytflajmgichdhhaa.PG
open Go.RowKit Go.Proofs.YtflajmgichdhhaaW.PrintWords Go.Proofs.YtflajmgichdhhaaW.PrintLast Go.Proofs.YtflajmgichdhhaaW.PrintMore
set_option linter.unusedVariables false
set_option linter.unusedSimpArgs false
theorem reads_at {w w' : World} {k : IntKind} {nb n : Nat} {xs : List Int} (h : ReadsInt w k (some ⟨nb, 0, none⟩) n xs) (he : w'.heap[nb]? = w.heap[nb]?) : ReadsInt w' k (some ⟨nb, 0, none⟩) n xs := by
 obtain ⟨h1, h2, h3⟩ := h
 refine ⟨h1, h2, fun hn => ?_⟩
 obtain ⟨ad, e, hc⟩ := h3 hn
 refine ⟨ad, e, fun j hj => ?_⟩
 cases e
 rw [← hc j hj, add_plain]
 unfold World.cell?
 rw [he]
theorem blk_set' {w : World} {g : Nat} {t : TypeId} {cs : Array Value} {fr : Nat × Nat} (h : w.heap[g]? = some (.cells cs t fr)) (i : Nat) (u : Value) : (w.setCell ⟨g, i, none⟩ u).heap[g]? = some (.cells (cs.setIfInBounds i u) t fr) := by
 simp [World.setCell, Array.getElem?_modify, h]
theorem blk_ne' {w : World} {g g' : Nat} {t t' : TypeId} {cs cs' : Array Value} {fr fr' : Nat × Nat} (h : w.heap[g]? = some (.cells cs t fr)) (h' : w.heap[g']? = some (.cells cs' t' fr')) (hne : t ≠ t') : g ≠ g' := by
 rintro rfl
 rw [h] at h'
 injection h' with h'
 injection h' with _ ht
 exact hne ht
section
variable {W : World} {ok : Nat → Prop} {v : Value} {S : DevS}
set_option maxRecDepth 100000 in
set_option maxHeartbeats 4000000 in
theorem damage_ref {k : Nat} (hR : RefIs W ok v S) (hF : Fine k S) (sec at_ mask : Int) : Calls Try.prog 34 #[v, .int .i64 sec, .int .i64 at_, .int .u8 mask] W fun e W' => RPost2 ok (damageS S sec at_ mask).1 (damageS S sec at_ mask).2 W e W' := by
 have HF := Aside0.mk hF
 clear hF
 obtain ⟨v0, v1, v2, v3, v6, fl, fu, sv, hA⟩ := id hR
 obtain rfl := hA.hv
 obtain ⟨A0, c0, e0, hl0, hF0⟩ := hA.h0
 obtain ⟨A1, c1, e1, hl1, hF1⟩ := hA.h1
 obtain ⟨A2, c2, e2, hl2, hF2⟩ := hA.h2
 obtain ⟨A3, c3, e3, hl3, hF3⟩ := hA.h3
 obtain ⟨A6, c6, e6, hl6, hF6⟩ := hA.h6
 subst e0 e1 e2 e3 e6
 have HR := Aside0.mk hR
 have HA := Aside0.mk hA
 have HF0 := Aside0.mk hF0
 have HF1 := Aside0.mk hF1
 have HF2 := Aside0.mk hF2
 have HF3 := Aside0.mk hF3
 obtain ⟨n0, hn0⟩ : ∃ n0, n0 = S.stable.length := ⟨_, rfl⟩
 obtain ⟨n1, hn1⟩ : ∃ n1, n1 = S.old.length := ⟨_, rfl⟩
 obtain ⟨n2, hn2⟩ : ∃ n2, n2 = S.pend.length := ⟨_, rfl⟩
 obtain ⟨n3, hn3⟩ : ∃ n3, n3 = fl.length := ⟨_, rfl⟩
 obtain ⟨n6, hn6⟩ : ∃ n6, n6 = sv.length := ⟨_, rfl⟩
 obtain ⟨fa, hfa⟩ : ∃ fa, fa = S.failed := ⟨_, rfl⟩
 have EQ := Aside0.mk (show n0 = S.stable.length ∧ n1 = S.old.length ∧ n2 = S.pend.length ∧ n3 = fl.length ∧ n6 = sv.length ∧ fa = S.failed from ⟨hn0, hn1, hn2, hn3, hn6, hfa⟩)
 rw [← hn0, ← hn1, ← hn2, ← hn3, ← hn6, ← hfa]
 rw [← hn0, ← hn1, ← hn2, ← hn3, ← hn6, ← hfa] at HR
 clear hR hA hF0 hF1 hF2 hF3 hF6 hl0 hl1 hl2 hl3 hl6 hn0 hn1 hn2 hn3 hn6 hfa
 have HT := Aside0.mk (fun (w : World) => show Calls Try.prog 54 #[.agg #[.slice A0 n0 c0, .slice A1 n1 c1, .slice A2 n2 c2, .slice A3 n3 c3, .bool fa, .int .i64 fu, .slice A6 n6 c6], .int .i64 sec] w fun e W' => e = .returned (.bool (decide (0 ≤ sec ∧ sec < (n0 : Int)))) ∧ Below w.heap.size w W' from there_ref w sec)
 unfold RPost2
 by_cases h1 : 0 ≤ sec ∧ sec < (n0 : Int)
 ·rw [decide_eq_true h1] at HT
  by_cases h2 : at_ < 0
  ·have hu : damageS S sec at_ mask = (2, S) := by unfold damageS; rw [if_neg (fun z => by omega)]
   rw [hu]
   have d2 : decide (at_ < 0) = true := decide_eq_true h2
   clear hu h1 h2
   go_enter Try.func34, Try.ntmps34
   go_wp2_with fail
   obtain ⟨w1, hw1⟩ : ∃ w1, w1 = (W.alloc (.cells #[.slice A0 n0 c0, .slice A1 n1 c1, .slice A2 n2 c2, .slice A3 n3 c3, .bool fa, .int .i64 fu, .slice A6 n6 c6] 31)).alloc (.cells #[.slice none 0 0, .slice none 0 0, .slice none 0 0, .slice none 0 0, .bool false, .int .i64 0, .slice none 0 0] 31) := ⟨_, rfl⟩
   have hb1 : Below W.heap.size W w1 := by rw [hw1]; exact below_alloc (below_alloc (Below.refl _ _) _) _
   have hs1 : w1.heap.size = W.heap.size + 1 + 1 := by rw [hw1]; simp
   have f0 : w1.heap[W.heap.size]? = some (.cells #[.slice A0 n0 c0, .slice A1 n1 c1, .slice A2 n2 c2, .slice A3 n3 c3, .bool fa, .int .i64 fu, .slice A6 n6 c6] 31 (0, 0)) := by rw [hw1]; exact blk_below (blk_new _ _) (below_alloc (Below.refl _ _) _)
   have f1 : w1.heap[W.heap.size + 1]? = some (.cells #[.slice none 0 0, .slice none 0 0, .slice none 0 0, .slice none 0 0, .bool false, .int .i64 0, .slice none 0 0] 31 (0, 0)) := by rw [hw1, show W.heap.size + 1 = (W.alloc (.cells #[.slice A0 n0 c0, .slice A1 n1 c1, .slice A2 n2 c2, .slice A3 n3 c3, .bool fa, .int .i64 fu, .slice A6 n6 c6] 31)).heap.size by simp]; exact blk_new _ _
   obtain ⟨bx, hbx⟩ : ∃ bx, bx = W.heap.size := ⟨_, rfl⟩
   obtain ⟨rb, hrb⟩ : ∃ rb, rb = W.heap.size + 1 := ⟨_, rfl⟩
   rw [← hw1, ← hrb]
   rw [show (Value.pointer (some ⟨W.heap.size, 0, none⟩)) = .pointer (some ⟨bx, 0, none⟩) by rw [hbx]]
   rw [← hrb] at f1
   rw [← hbx] at f0
   have LB := Aside0.mk (show W.heap.size ≤ bx ∧ W.heap.size ≤ rb ∧ bx ≠ rb ∧ bx < w1.heap.size ∧ rb < w1.heap.size from ⟨by omega, by omega, by omega, by omega, by omega⟩)
   have F0 := Aside0.mk f0
   have F1 := Aside0.mk f1
   have HB1 := Aside0.mk hb1
   have HS1 := Aside0.mk hs1
   clear hw1 hb1 hs1 f0 f1 hbx hrb
   have HBW := Aside0.mk HB1.out
   refine (HT.out w1).mono ?_
   rintro e w2 ⟨rfl, hb⟩
   have g0 := blk_below F0.out hb
   have g1 := blk_below F1.out hb
   have hbw := HB1.out.trans (hb.mono HB1.out.size)
   obtain ⟨k0, k1, k2, k3, k4, k5, k6⟩ := cells7 g0
   obtain ⟨z0, z1, z2, z3, z4, z5, z6⟩ := froz7 g0
   obtain ⟨r0, r1, r2, r3, r4, r5, r6⟩ := cells7 g1
   obtain ⟨s0, s1, s2, s3, s4, s5, s6⟩ := froz7 g1
   have ne1 : bx ≠ rb := LB.out.2.2.1
   have ne2 : rb ≠ bx := fun e => ne1 e.symm
   have G1 := Aside0.mk g1
   clear g0 g1 hb F0 F1
   go_wp2_with fail
   have hbC := set7_below hbw LB.out.2.1 (.slice A0 n0 c0) (.slice A1 n1 c1) (.slice A2 n2 c2) (.slice A3 n3 c3) (.bool fa) (.int .i64 fu) (.slice A6 n6 c6)
   refine bodyPost_ret (results_ct rfl _ _ rb 31 #[.slice A0 n0 c0, .slice A1 n1 c1, .slice A2 n2 c2, .slice A3 n3 c3, .bool fa, .int .i64 fu, .slice A6 n6 c6] (0, 0) _ rfl (set7_blk G1.out (.slice A0 n0 c0) (.slice A1 n1 c1) (.slice A2 n2 c2) (.slice A3 n3 c3) (.bool fa) (.int .i64 fu) (.slice A6 n6 c6)) Try.underlying31 rfl (by kernel_rfl)) rfl ?_
   refine ⟨_, rfl, ?_, hbC⟩
   exact (HR.out.below hbC).mono (fun k hk _ => Or.inl hk)
  ·have d2 : decide (at_ < 0) = false := decide_eq_false h2
   by_cases h3 : 140 ≤ at_
   ·have hu : damageS S sec at_ mask = (2, S) := by unfold damageS; rw [if_neg (fun z => by omega)]
    rw [hu]
    have d3 : decide (140 ≤ at_) = true := decide_eq_true h3
    clear hu h1 h2 h3
    go_enter Try.func34, Try.ntmps34
    go_wp2_with fail
    obtain ⟨w1, hw1⟩ : ∃ w1, w1 = (W.alloc (.cells #[.slice A0 n0 c0, .slice A1 n1 c1, .slice A2 n2 c2, .slice A3 n3 c3, .bool fa, .int .i64 fu, .slice A6 n6 c6] 31)).alloc (.cells #[.slice none 0 0, .slice none 0 0, .slice none 0 0, .slice none 0 0, .bool false, .int .i64 0, .slice none 0 0] 31) := ⟨_, rfl⟩
    have hb1 : Below W.heap.size W w1 := by rw [hw1]; exact below_alloc (below_alloc (Below.refl _ _) _) _
    have hs1 : w1.heap.size = W.heap.size + 1 + 1 := by rw [hw1]; simp
    have f0 : w1.heap[W.heap.size]? = some (.cells #[.slice A0 n0 c0, .slice A1 n1 c1, .slice A2 n2 c2, .slice A3 n3 c3, .bool fa, .int .i64 fu, .slice A6 n6 c6] 31 (0, 0)) := by rw [hw1]; exact blk_below (blk_new _ _) (below_alloc (Below.refl _ _) _)
    have f1 : w1.heap[W.heap.size + 1]? = some (.cells #[.slice none 0 0, .slice none 0 0, .slice none 0 0, .slice none 0 0, .bool false, .int .i64 0, .slice none 0 0] 31 (0, 0)) := by rw [hw1, show W.heap.size + 1 = (W.alloc (.cells #[.slice A0 n0 c0, .slice A1 n1 c1, .slice A2 n2 c2, .slice A3 n3 c3, .bool fa, .int .i64 fu, .slice A6 n6 c6] 31)).heap.size by simp]; exact blk_new _ _
    obtain ⟨bx, hbx⟩ : ∃ bx, bx = W.heap.size := ⟨_, rfl⟩
    obtain ⟨rb, hrb⟩ : ∃ rb, rb = W.heap.size + 1 := ⟨_, rfl⟩
    rw [← hw1, ← hrb]
    rw [show (Value.pointer (some ⟨W.heap.size, 0, none⟩)) = .pointer (some ⟨bx, 0, none⟩) by rw [hbx]]
    rw [← hrb] at f1
    rw [← hbx] at f0
    have LB := Aside0.mk (show W.heap.size ≤ bx ∧ W.heap.size ≤ rb ∧ bx ≠ rb ∧ bx < w1.heap.size ∧ rb < w1.heap.size from ⟨by omega, by omega, by omega, by omega, by omega⟩)
    have F0 := Aside0.mk f0
    have F1 := Aside0.mk f1
    have HB1 := Aside0.mk hb1
    have HS1 := Aside0.mk hs1
    clear hw1 hb1 hs1 f0 f1 hbx hrb
    have HBW := Aside0.mk HB1.out
    refine (HT.out w1).mono ?_
    rintro e w2 ⟨rfl, hb⟩
    have g0 := blk_below F0.out hb
    have g1 := blk_below F1.out hb
    have hbw := HB1.out.trans (hb.mono HB1.out.size)
    obtain ⟨k0, k1, k2, k3, k4, k5, k6⟩ := cells7 g0
    obtain ⟨z0, z1, z2, z3, z4, z5, z6⟩ := froz7 g0
    obtain ⟨r0, r1, r2, r3, r4, r5, r6⟩ := cells7 g1
    obtain ⟨s0, s1, s2, s3, s4, s5, s6⟩ := froz7 g1
    have ne1 : bx ≠ rb := LB.out.2.2.1
    have ne2 : rb ≠ bx := fun e => ne1 e.symm
    have G1 := Aside0.mk g1
    clear g0 g1 hb F0 F1
    go_wp2_with fail
    have hbC := set7_below hbw LB.out.2.1 (.slice A0 n0 c0) (.slice A1 n1 c1) (.slice A2 n2 c2) (.slice A3 n3 c3) (.bool fa) (.int .i64 fu) (.slice A6 n6 c6)
    refine bodyPost_ret (results_ct rfl _ _ rb 31 #[.slice A0 n0 c0, .slice A1 n1 c1, .slice A2 n2 c2, .slice A3 n3 c3, .bool fa, .int .i64 fu, .slice A6 n6 c6] (0, 0) _ rfl (set7_blk G1.out (.slice A0 n0 c0) (.slice A1 n1 c1) (.slice A2 n2 c2) (.slice A3 n3 c3) (.bool fa) (.int .i64 fu) (.slice A6 n6 c6)) Try.underlying31 rfl (by kernel_rfl)) rfl ?_
    refine ⟨_, rfl, ?_, hbC⟩
    exact (HR.out.below hbC).mono (fun k hk _ => Or.inl hk)
   ·have d3 : decide (140 ≤ at_) = false := decide_eq_false h3
    by_cases h4 : mask = 0
    ·have hu : damageS S sec at_ mask = (1, S) := by unfold damageS; rw [if_pos ⟨⟨h1.1, by have := EQ.out.1; omega⟩, by omega, by omega⟩, if_pos h4]
     rw [hu]
     have d4 : (mask == 0) = true := by rw [h4]; rfl
     clear hu h1 h2 h3 h4
     go_enter Try.func34, Try.ntmps34
     go_wp2_with fail
     obtain ⟨w1, hw1⟩ : ∃ w1, w1 = (W.alloc (.cells #[.slice A0 n0 c0, .slice A1 n1 c1, .slice A2 n2 c2, .slice A3 n3 c3, .bool fa, .int .i64 fu, .slice A6 n6 c6] 31)).alloc (.cells #[.slice none 0 0, .slice none 0 0, .slice none 0 0, .slice none 0 0, .bool false, .int .i64 0, .slice none 0 0] 31) := ⟨_, rfl⟩
     have hb1 : Below W.heap.size W w1 := by rw [hw1]; exact below_alloc (below_alloc (Below.refl _ _) _) _
     have hs1 : w1.heap.size = W.heap.size + 1 + 1 := by rw [hw1]; simp
     have f0 : w1.heap[W.heap.size]? = some (.cells #[.slice A0 n0 c0, .slice A1 n1 c1, .slice A2 n2 c2, .slice A3 n3 c3, .bool fa, .int .i64 fu, .slice A6 n6 c6] 31 (0, 0)) := by rw [hw1]; exact blk_below (blk_new _ _) (below_alloc (Below.refl _ _) _)
     have f1 : w1.heap[W.heap.size + 1]? = some (.cells #[.slice none 0 0, .slice none 0 0, .slice none 0 0, .slice none 0 0, .bool false, .int .i64 0, .slice none 0 0] 31 (0, 0)) := by rw [hw1, show W.heap.size + 1 = (W.alloc (.cells #[.slice A0 n0 c0, .slice A1 n1 c1, .slice A2 n2 c2, .slice A3 n3 c3, .bool fa, .int .i64 fu, .slice A6 n6 c6] 31)).heap.size by simp]; exact blk_new _ _
     obtain ⟨bx, hbx⟩ : ∃ bx, bx = W.heap.size := ⟨_, rfl⟩
     obtain ⟨rb, hrb⟩ : ∃ rb, rb = W.heap.size + 1 := ⟨_, rfl⟩
     rw [← hw1, ← hrb]
     rw [show (Value.pointer (some ⟨W.heap.size, 0, none⟩)) = .pointer (some ⟨bx, 0, none⟩) by rw [hbx]]
     rw [← hrb] at f1
     rw [← hbx] at f0
     have LB := Aside0.mk (show W.heap.size ≤ bx ∧ W.heap.size ≤ rb ∧ bx ≠ rb ∧ bx < w1.heap.size ∧ rb < w1.heap.size from ⟨by omega, by omega, by omega, by omega, by omega⟩)
     have F0 := Aside0.mk f0
     have F1 := Aside0.mk f1
     have HB1 := Aside0.mk hb1
     have HS1 := Aside0.mk hs1
     clear hw1 hb1 hs1 f0 f1 hbx hrb
     have HBW := Aside0.mk HB1.out
     refine (HT.out w1).mono ?_
     rintro e w2 ⟨rfl, hb⟩
     have g0 := blk_below F0.out hb
     have g1 := blk_below F1.out hb
     have hbw := HB1.out.trans (hb.mono HB1.out.size)
     obtain ⟨k0, k1, k2, k3, k4, k5, k6⟩ := cells7 g0
     obtain ⟨z0, z1, z2, z3, z4, z5, z6⟩ := froz7 g0
     obtain ⟨r0, r1, r2, r3, r4, r5, r6⟩ := cells7 g1
     obtain ⟨s0, s1, s2, s3, s4, s5, s6⟩ := froz7 g1
     have ne1 : bx ≠ rb := LB.out.2.2.1
     have ne2 : rb ≠ bx := fun e => ne1 e.symm
     have G1 := Aside0.mk g1
     clear g0 g1 hb F0 F1
     go_wp2_with fail
     have hbC := set7_below hbw LB.out.2.1 (.slice A0 n0 c0) (.slice A1 n1 c1) (.slice A2 n2 c2) (.slice A3 n3 c3) (.bool fa) (.int .i64 fu) (.slice A6 n6 c6)
     refine bodyPost_ret (results_ct rfl _ _ rb 31 #[.slice A0 n0 c0, .slice A1 n1 c1, .slice A2 n2 c2, .slice A3 n3 c3, .bool fa, .int .i64 fu, .slice A6 n6 c6] (0, 0) _ rfl (set7_blk G1.out (.slice A0 n0 c0) (.slice A1 n1 c1) (.slice A2 n2 c2) (.slice A3 n3 c3) (.bool fa) (.int .i64 fu) (.slice A6 n6 c6)) Try.underlying31 rfl (by kernel_rfl)) rfl ?_
     refine ⟨_, rfl, ?_, hbC⟩
     exact (HR.out.below hbC).mono (fun k hk _ => Or.inl hk)
    ·have d4 : (mask == 0) = false := beq_eq_false_iff_ne.2 h4
     obtain ⟨i, rfl⟩ := Int.eq_ofNat_of_zero_le h1.1
     obtain ⟨a, rfl⟩ := Int.eq_ofNat_of_zero_le (show 0 ≤ at_ by omega)
     have hin : i < n0 := by omega
     have hinS : i < S.stable.length := by have := EQ.out.1; omega
     have hu : damageS S (i : Int) (a : Int) mask = (0, { S with stable := S.stable.set i (damB (S.stable.getD i ⟨#[]⟩) a mask) }) := by
      unfold damageS
      rw [Int.toNat_natCast, Int.toNat_natCast, if_pos ⟨⟨h1.1, by have := EQ.out.1; omega⟩, by omega, by omega⟩, if_neg h4]
     rw [hu]
     have hsz : (S.stable.getD i ⟨#[]⟩).size = 140 := HF.out.size _ (getD_mem _ _ _ hinS)
     obtain ⟨ad, ea, x0⟩ := Kd.at_string (Kd.F_now HF0.out) (i : Int) (by omega) (by have := EQ.out.1; omega)
     rw [Int.toNat_natCast, show rdOf ByteArray.empty S.stable (i : Int) = S.stable.getD i ⟨#[]⟩ by unfold rdOf; rw [Int.toNat_natCast]; rfl] at x0
     obtain ⟨x, hx⟩ : ∃ x, x = S.stable.getD i ⟨#[]⟩ := ⟨_, rfl⟩
     rw [← hx] at x0 hsz ⊢
     obtain ⟨y, hy⟩ : ∃ y, y = damB x a mask := ⟨_, rfl⟩
     rw [← hy]
     have HY := Aside0.mk hy
     clear hy
     subst ea
     have hinz : (i : Int) < (n0 : Int) := by omega
     have hnm : n0 ≤ 1155 := by have := HF.out.n1; have := EQ.out.1; omega
     have hax : a < x.size := by omega
     have haz : (a : Int) < (x.size : Int) := by omega
     have hxl : (x.size : Int) ≤ 140 := by omega
     have HSZ := Aside0.mk hsz
     have X0 := Aside0.mk x0
     clear hu h1 h2 h3 h4 hx hsz x0
     go_enter Try.func34, Try.ntmps34
     go_wp2_with fail
     obtain ⟨w1, hw1⟩ : ∃ w1, w1 = (W.alloc (.cells #[.slice (some ad) n0 c0, .slice A1 n1 c1, .slice A2 n2 c2, .slice A3 n3 c3, .bool fa, .int .i64 fu, .slice A6 n6 c6] 31)).alloc (.cells #[.slice none 0 0, .slice none 0 0, .slice none 0 0, .slice none 0 0, .bool false, .int .i64 0, .slice none 0 0] 31) := ⟨_, rfl⟩
     have hb1 : Below W.heap.size W w1 := by rw [hw1]; exact below_alloc (below_alloc (Below.refl _ _) _) _
     have hs1 : w1.heap.size = W.heap.size + 1 + 1 := by rw [hw1]; simp
     have f0 : w1.heap[W.heap.size]? = some (.cells #[.slice (some ad) n0 c0, .slice A1 n1 c1, .slice A2 n2 c2, .slice A3 n3 c3, .bool fa, .int .i64 fu, .slice A6 n6 c6] 31 (0, 0)) := by rw [hw1]; exact blk_below (blk_new _ _) (below_alloc (Below.refl _ _) _)
     have f1 : w1.heap[W.heap.size + 1]? = some (.cells #[.slice none 0 0, .slice none 0 0, .slice none 0 0, .slice none 0 0, .bool false, .int .i64 0, .slice none 0 0] 31 (0, 0)) := by rw [hw1, show W.heap.size + 1 = (W.alloc (.cells #[.slice (some ad) n0 c0, .slice A1 n1 c1, .slice A2 n2 c2, .slice A3 n3 c3, .bool fa, .int .i64 fu, .slice A6 n6 c6] 31)).heap.size by simp]; exact blk_new _ _
     obtain ⟨bx, hbx⟩ : ∃ bx, bx = W.heap.size := ⟨_, rfl⟩
     obtain ⟨rb, hrb⟩ : ∃ rb, rb = W.heap.size + 1 := ⟨_, rfl⟩
     rw [← hw1, ← hrb]
     rw [show (Value.pointer (some ⟨W.heap.size, 0, none⟩)) = .pointer (some ⟨bx, 0, none⟩) by rw [hbx]]
     rw [← hrb] at f1
     rw [← hbx] at f0
     have LB := Aside0.mk (show W.heap.size ≤ bx ∧ W.heap.size ≤ rb ∧ bx ≠ rb ∧ bx < w1.heap.size ∧ rb < w1.heap.size from ⟨by omega, by omega, by omega, by omega, by omega⟩)
     have F0 := Aside0.mk f0
     have F1 := Aside0.mk f1
     have HB1 := Aside0.mk hb1
     have HS1 := Aside0.mk hs1
     clear hw1 hb1 hs1 f0 f1 hbx hrb
     have HBW := Aside0.mk HB1.out
     refine (HT.out w1).mono ?_
     rintro e w2 ⟨rfl, hb⟩
     have g0 := blk_below F0.out hb
     have g1 := blk_below F1.out hb
     have hbw := HB1.out.trans (hb.mono HB1.out.size)
     obtain ⟨k0, k1, k2, k3, k4, k5, k6⟩ := cells7 g0
     obtain ⟨z0, z1, z2, z3, z4, z5, z6⟩ := froz7 g0
     obtain ⟨r0, r1, r2, r3, r4, r5, r6⟩ := cells7 g1
     obtain ⟨s0, s1, s2, s3, s4, s5, s6⟩ := froz7 g1
     have ne1 : bx ≠ rb := LB.out.2.2.1
     have ne2 : rb ≠ bx := fun e => ne1 e.symm
     have lbx := blk_lt g0
     have HBW := Aside0.mk hbw
     have HX0 := Aside0.mk (show ad.block < W.heap.size from by have := World.block_lt_of_cell? _ _ X0.out; unfold Addr.add at this; split at this <;> exact this)
     have x0 := (hbw.cell (World.block_lt_of_cell? _ _ X0.out)).trans X0.out
     obtain ⟨nb, hnb⟩ : ∃ nb, nb = w2.heap.size := ⟨_, rfl⟩
     have hcv := print_bytes (P := Try.prog) 9 87 5 Try.underlying9 Try.underlying87 Try.underlying5 x w2
     obtain ⟨w5, hw5⟩ : ∃ w5, w5 = Lib.bytesWorld w2 5 x := ⟨_, rfl⟩
     have hb5 : Below w2.heap.size w2 w5 := by rw [hw5]; exact bytes_below (Below.refl _ _) (Nat.le_refl _) 5 x
     have hx5 := Lib.bytesWorld_at_new w2 5 x
     have q5' := Lib.bytesWorld_cell w2 5 x a hax
     have hr5 := bytes_reads w2 5 x (by omega)
     have hl5 := Lib.bytesWorld_size w2 5 x
     rw [← hw5] at hx5 q5' hr5 hcv hl5
     obtain ⟨b, hbb⟩ : ∃ b, b = (x.data.toList.getD a 0) := ⟨_, rfl⟩
     have q5 : w5.cell? ⟨w2.heap.size, a, none⟩ = some (.int .u8 (b.toNat : Int)) := by rw [hbb]; exact q5'
     have g5 : w5.frozen? ⟨w2.heap.size, a, none⟩ = false := by
      unfold World.frozen?
      rw [hx5]
      show (decide (_ ≤ a) && _) = false
      have : ¬ (Lib.bytesCells w2 5 x).size ≤ a := by unfold Lib.bytesCells; simp; have : x.data.size = x.size := rfl; omega
      rw [decide_eq_false this]; rfl
     obtain ⟨gc, hgc⟩ : ∃ gc, gc = grownCap w2 x.size 0 5 := ⟨_, rfl⟩
     rw [← hgc] at hcv
     rw [← hnb] at hcv hx5 q5 g5 hr5 hl5
     have jb1 : nb ≠ bx := by have := lbx; omega
     have jb2 : nb ≠ rb := by have := blk_lt g1; omega
     have jb3 : W.heap.size ≤ nb := by rw [hnb]; exact hbw.size
     have hb0 : (0 : Int) ≤ (b.toNat : Int) := by omega
     have hb1' : (b.toNat : Int) < 256 := by have := b.toNat_lt; omega
     have HCV := Aside0.mk (show bits BinOp.xor IntKind.u8 (((x.data.toList.getD a 0).toNat : Nat) : Int) mask = bits BinOp.xor IntKind.u8 (b.toNat : Int) mask from by rw [hbb])
     have G0 := Aside0.mk (blk_below g0 hb5)
     have G1 := Aside0.mk (blk_below g1 hb5)
     have HB5 := Aside0.mk (hbw.trans (hb5.mono hbw.size))
     have HNB := Aside0.mk hx5
     have HRD := Aside0.mk (reads_put hr5 a hax (bits BinOp.xor IntKind.u8 (b.toNat : Int) mask))
     have HL5 := Aside0.mk (show nb < w5.heap.size from by omega)
     clear g0 g1 lbx hb hbw hb5 hx5 q5' hr5 hl5 hbb hgc hw5 hnb F0 F1
     go_upto_region 7 with (fail)
     obtain ⟨w6, hw6⟩ : ∃ w6, w6 = w5.setCell ⟨nb, a, none⟩ (.int .u8 (bits BinOp.xor IntKind.u8 (b.toNat : Int) mask)) := ⟨_, rfl⟩
     have hf6 : ∀ k, k ≠ nb → w6.heap[k]? = w5.heap[k]? := fun k hk => by rw [hw6]; exact Below.heap_setCell _ _ _ _ hk
     have g0 := (hf6 bx jb1.symm).trans G0.out
     have g1 := (hf6 rb jb2.symm).trans G1.out
     have hbw := HB5.out.setCell (p := ⟨nb, a, none⟩) jb3 (.int .u8 (bits BinOp.xor IntKind.u8 (b.toNat : Int) mask))
     have hnb6 := blk_set' HNB.out a (.int .u8 (bits BinOp.xor IntKind.u8 (b.toNat : Int) mask))
     have hrd6 := HRD.out
     have hl6 : nb < w6.heap.size := by have := HL5.out; rw [hw6]; simpa [World.setCell] using this
     rw [← hw6] at hbw hnb6 hrd6
     rw [← hw6]
     have HBW := Aside0.mk hbw
     clear k0 k1 k2 k3 k4 k5 k6 z0 z1 z2 z3 z4 z5 z6 r0 r1 r2 r3 r4 r5 r6 s0 s1 s2 s3 s4 s5 s6 q5 g5 x0 hcv
     obtain ⟨k0, k1, k2, k3, k4, k5, k6⟩ := cells7 g0
     obtain ⟨z0, z1, z2, z3, z4, z5, z6⟩ := froz7 g0
     obtain ⟨r0, r1, r2, r3, r4, r5, r6⟩ := cells7 g1
     obtain ⟨s0, s1, s2, s3, s4, s5, s6⟩ := froz7 g1
     have ne1 : bx ≠ rb := LB.out.2.2.1
     have ne2 : rb ≠ bx := fun e => ne1 e.symm
     have G0 := Aside0.mk g0
     have G1 := Aside0.mk g1
     have HNB := Aside0.mk hnb6
     have lbx := blk_lt g0
     have HRD := Aside0.mk hrd6
     clear hw6 hf6 g0 g1 hbw hnb6 hrd6 HB5 HL5
     go_wp2_with (at_builtin; with_reducible refine stopHere ?_)
     obtain ⟨e0, he0⟩ : ∃ e0, e0 = w6.heap.size := ⟨_, rfl⟩
     obtain ⟨w3, hw3⟩ : ∃ w3, w3 = w6.alloc (.cells #[] 9) := ⟨_, rfl⟩
     have hb3 : Below w6.heap.size w6 w3 := by rw [hw3]; exact below_alloc (Below.refl _ _) _
     have f2 : w3.heap[e0]? = some (.cells #[] 9 (0, 0)) := by rw [hw3, he0]; exact blk_new _ _
     rw [← he0, ← hw3]
     have f0 := blk_below G0.out hb3
     have f1 := blk_below G1.out hb3
     have fn := blk_below HNB.out hb3
     have fb := HBW.out.trans (hb3.mono HBW.out.size)
     have hle0 : W.heap.size ≤ e0 := by rw [he0]; exact HBW.out.size
     have je0 : bx ≠ e0 := fun e => by have := blk_lt G0.out; omega
     have je1 : rb ≠ e0 := fun e => by have := blk_lt G1.out; omega
     have je2 : nb ≠ e0 := fun e => by omega
     have HRD3 := Aside0.mk (reads_at HRD.out (hb3.block nb hl6))
     clear hw3 he0 hb3 G0 G1 HNB k0 k1 k2 k3 k4 k5 k6 z0 z1 z2 z3 z4 z5 z6 r0 r1 r2 r3 r4 r5 r6 s0 s1 s2 s3 s4 s5 s6 HRD hl6 lbx
     refine ⟨?_⟩
     refine Kd.R_append_rows Kd.string (w0 := W) W.heap.size rfl (.tmp 42) (.tmp 44) 26 9 (.string ⟨#[]⟩) 16 rfl Try.underlying26 info9 rfl (by decide) (by omega) _ [] S.stable (some ad) n0 c0 (fun k => W.heap.size ≤ k) (fun _ => False) rfl rfl (empty_own' f2 hle0) (by rw [EQ.out.1]; exact Kd.C_below (Kd.F_now HF0.out) fb) (fun _ _ h => h) (fun _ h => h.elim) (fun k hk => Nat.le_trans fb.size hk) fb fb.size (by simp; omega) ?_
     intro v1 w4 hR1 hb4 hg4 hat4
     rw [List.nil_append] at hR1
     obtain ⟨g1, cap1, cur1, hv1, hge1, hh1, hle1, hmx1, hcur1⟩ := own_open hR1 (by have := EQ.out.1; omega)
     rw [← EQ.out.1] at hv1 hle1
     subst hv1
     have f0 := (hg4.block bx (blk_lt f0) (fun e => je0 (Option.some.inj e))).trans f0
     have f1 := (hg4.block rb (blk_lt f1) (fun e => je1 (Option.some.inj e))).trans f1
     have en4 := hg4.block nb (blk_lt fn) (fun e => je2 (Option.some.inj e))
     have HRD4 := Aside0.mk (reads_at HRD3.out en4)
     have fn := en4.trans fn
     obtain ⟨k0, k1, k2, k3, k4, k5, k6⟩ := cells7 f0
     obtain ⟨z0, z1, z2, z3, z4, z5, z6⟩ := froz7 f0
     obtain ⟨r0, r1, r2, r3, r4, r5, r6⟩ := cells7 f1
     obtain ⟨s0, s1, s2, s3, s4, s5, s6⟩ := froz7 f1
     have ne3 : g1 ≠ bx := blk_ne hh1 f0 (by decide)
     have ne4 : bx ≠ g1 := fun e => ne3 e.symm
     have ne6 : rb ≠ g1 := blk_ne f1 hh1 (by decide)
     have ne7 : g1 ≠ rb := fun e => ne6 e.symm
     have ne8 : nb ≠ g1 := blk_ne' fn hh1 (by decide)
     have F0 := Aside0.mk f0
     have F1 := Aside0.mk f1
     have H1 := Aside0.mk hh1
     have HB4 := Aside0.mk hb4
     have HCU := Aside0.mk hcur1
     have L1 := Aside0.mk (show W.heap.size ≤ g1 from hge1)
     have HL1 := Aside0.mk hle1
     clear f0 f1 f2 fb fn en4 hle0 je0 je1 je2 hR1 hb4 hg4 hat4 hh1 hge1 hmx1 hcur1 HRD3
     go_upto_region 8 with (fail)
     obtain ⟨w7, hw7⟩ : ∃ w7, w7 = w4.setCell ⟨bx, 0, none⟩ (.slice (some ⟨g1, 0, none⟩) n0 cap1) := ⟨_, rfl⟩
     have hf7 : ∀ k, k ≠ bx → w7.heap[k]? = w4.heap[k]? := fun k hk => by rw [hw7]; exact Below.heap_setCell _ _ _ _ hk
     have b7 : w7.heap[bx]? = some (.cells #[.slice (some ⟨g1, 0, none⟩) n0 cap1, .slice A1 n1 c1, .slice A2 n2 c2, .slice A3 n3 c3, .bool fa, .int .i64 fu, .slice A6 n6 c6] 31 (0, 0)) := by rw [hw7]; exact blk_put F0.out 0 _ rfl
     have hr7 := (hf7 rb ne2).trans F1.out
     have h7 := (hf7 g1 ne3).trans H1.out
     have hb7 : Below W.heap.size W w7 := by rw [hw7]; exact HB4.out.setCell (p := ⟨bx, 0, none⟩) LB.out.1 _
     have hrd7 := reads_at HRD4.out (hf7 nb jb1)
     rw [← hw7]
     clear hw7 hf7 k0 k1 k2 k3 k4 k5 k6 z0 z1 z2 z3 z4 z5 z6 r0 r1 r2 r3 r4 r5 r6 s0 s1 s2 s3 s4 s5 s6
     obtain ⟨k0, k1, k2, k3, k4, k5, k6⟩ := cells7 b7
     obtain ⟨z0, z1, z2, z3, z4, z5, z6⟩ := froz7 b7
     obtain ⟨r0, r1, r2, r3, r4, r5, r6⟩ := cells7 hr7
     obtain ⟨s0, s1, s2, s3, s4, s5, s6⟩ := froz7 hr7
     have q7 : ∃ u, w7.cell? ⟨g1, i, none⟩ = some u := ⟨_, by rw [blk_cell h7]; exact HCU.out i _ (List.getElem?_eq_getElem (by have := EQ.out.1; omega))⟩
     obtain ⟨u7, q7⟩ := q7
     have q8 : w7.frozen? ⟨g1, i, none⟩ = false := blk_frozen h7 i
     have hcv2 : (convert 87 9 (.slice (some ⟨nb, 0, none⟩) x.size gc)).run Try.prog w7 = .ok (.string y) w7 := by
      have h := string_of_reads (P := Try.prog) (src := 87) (dst := 9) (c := gc) Try.underlying87 Try.underlying5 Try.underlying9 hrd7
      rw [HY.out]
      unfold damB
      rw [HCV.out]
      exact h
     have B7 := Aside0.mk b7
     have R7 := Aside0.mk hr7
     have H7 := Aside0.mk h7
     have HB7 := Aside0.mk hb7
     clear b7 hr7 h7 hb7 F0 F1 H1 HB4 hrd7 HRD4
     go_wp2_with fail
     obtain ⟨wB, hwB⟩ : ∃ wB, wB = w7.setCell ⟨g1, i, none⟩ (.string y) := ⟨_, rfl⟩
     have hB1 : wB.heap[rb]? = some (.cells #[.slice none 0 0, .slice none 0 0, .slice none 0 0, .slice none 0 0, .bool false, .int .i64 0, .slice none 0 0] 31 (0, 0)) := by rw [hwB]; exact (Below.heap_setCell _ _ _ _ ne6).trans R7.out
     have hBg : wB.heap[g1]? = some (.cells (cur1.setIfInBounds i (.string y)) 9 (0, 0)) := by rw [hwB]; exact blk_put H7.out i _ rfl
     have hbB : Below W.heap.size W wB := by rw [hwB]; exact HB7.out.setCell (p := ⟨g1, i, none⟩) L1.out _
     have hbC := set7_below hbB LB.out.2.1 (.slice (some ⟨g1, 0, none⟩) n0 cap1) (.slice A1 n1 c1) (.slice A2 n2 c2) (.slice A3 n3 c3) (.bool fa) (.int .i64 fu) (.slice A6 n6 c6)
     have hxC := set7_blk hB1 (.slice (some ⟨g1, 0, none⟩) n0 cap1) (.slice A1 n1 c1) (.slice A2 n2 c2) (.slice A3 n3 c3) (.bool fa) (.int .i64 fu) (.slice A6 n6 c6)
     have hgC : (set7 wB rb (.slice (some ⟨g1, 0, none⟩) n0 cap1) (.slice A1 n1 c1) (.slice A2 n2 c2) (.slice A3 n3 c3) (.bool fa) (.int .i64 fu) (.slice A6 n6 c6)).heap[g1]? = some (.cells (cur1.setIfInBounds i (.string y)) 9 (0, 0)) := (set7_far wB rb (.slice (some ⟨g1, 0, none⟩) n0 cap1) (.slice A1 n1 c1) (.slice A2 n2 c2) (.slice A3 n3 c3) (.bool fa) (.int .i64 fu) (.slice A6 n6 c6) g1 ne7).trans hBg
     obtain ⟨wC, hwC⟩ : ∃ wC, wC = set7 wB rb (.slice (some ⟨g1, 0, none⟩) n0 cap1) (.slice A1 n1 c1) (.slice A2 n2 c2) (.slice A3 n3 c3) (.bool fa) (.int .i64 fu) (.slice A6 n6 c6) := ⟨_, rfl⟩
     rw [← hwC] at hbC hxC hgC
     unfold set7 at hwC
     rw [← hwB, ← hwC]
     clear hwC hwB hbB hB1 hBg
     refine bodyPost_ret (results_ct rfl _ _ rb 31 #[.slice (some ⟨g1, 0, none⟩) n0 cap1, .slice A1 n1 c1, .slice A2 n2 c2, .slice A3 n3 c3, .bool fa, .int .i64 fu, .slice A6 n6 c6] (0, 0) _ rfl hxC Try.underlying31 rfl (by kernel_rfl)) rfl ?_
     refine ⟨_, rfl, ?_, hbC⟩
     have mv : ∀ {α : Type} {d : Kd α} {e : Nat} {u : Value} {xs : List α}, Kd.V d e W 0 ok u xs → Kd.V d e wC 0 (fun k => ok k ∨ W.heap.size ≤ k) u xs := fun hu => Kd.V_mono (Kd.V_below hu hbC) (fun k hk => Or.inl hk)
     obtain ⟨t0, t1, t2, t3, t4, t5⟩ := EQ.out
     have hV := scal_V (enc := Value.string) (h1 := fun _ => rfl) (cap := cap1) (xs := S.stable.set i y) hgC (by simp; omega) (by have := HL1.out; simp; omega) (set_cur Value.string HCU.out i (by omega) y _ rfl)
     rw [List.length_set, ← t0] at hV
     have hA := HA.out
     rw [← t1, ← t2, ← t3, ← t4] at hA
     have hfin : RefIs wC (fun k => ok k ∨ W.heap.size ≤ k) (.agg #[.slice (some ⟨g1, 0, none⟩) n0 cap1, .slice A1 n1 c1, .slice A2 n2 c2, .slice A3 n3 c3, .bool fa, .int .i64 fu, .slice A6 n6 c6]) { S with stable := S.stable.set i y } := ⟨_, _, _, _, _, fl, fu, sv, { hv := by rw [← t5], h0 := Kd.V_mono hV (fun k hk => by rw [hk]; exact Or.inr L1.out), h1 := mv hA.h1, h2 := mv hA.h2, h3 := mv hA.h3, h6 := mv hA.h6, fl5 := hA.fl5, fok := hA.fok, uok := hA.uok }⟩
     exact hfin
 ·rw [decide_eq_false h1] at HT
  have hu : damageS S sec at_ mask = (2, S) := by unfold damageS; rw [if_neg (fun z => h1 ⟨z.1.1, by have := EQ.out.1; omega⟩)]
  rw [hu]
  clear hu h1
  go_enter Try.func34, Try.ntmps34
  go_wp2_with fail
  obtain ⟨w1, hw1⟩ : ∃ w1, w1 = (W.alloc (.cells #[.slice A0 n0 c0, .slice A1 n1 c1, .slice A2 n2 c2, .slice A3 n3 c3, .bool fa, .int .i64 fu, .slice A6 n6 c6] 31)).alloc (.cells #[.slice none 0 0, .slice none 0 0, .slice none 0 0, .slice none 0 0, .bool false, .int .i64 0, .slice none 0 0] 31) := ⟨_, rfl⟩
  have hb1 : Below W.heap.size W w1 := by rw [hw1]; exact below_alloc (below_alloc (Below.refl _ _) _) _
  have hs1 : w1.heap.size = W.heap.size + 1 + 1 := by rw [hw1]; simp
  have f0 : w1.heap[W.heap.size]? = some (.cells #[.slice A0 n0 c0, .slice A1 n1 c1, .slice A2 n2 c2, .slice A3 n3 c3, .bool fa, .int .i64 fu, .slice A6 n6 c6] 31 (0, 0)) := by rw [hw1]; exact blk_below (blk_new _ _) (below_alloc (Below.refl _ _) _)
  have f1 : w1.heap[W.heap.size + 1]? = some (.cells #[.slice none 0 0, .slice none 0 0, .slice none 0 0, .slice none 0 0, .bool false, .int .i64 0, .slice none 0 0] 31 (0, 0)) := by rw [hw1, show W.heap.size + 1 = (W.alloc (.cells #[.slice A0 n0 c0, .slice A1 n1 c1, .slice A2 n2 c2, .slice A3 n3 c3, .bool fa, .int .i64 fu, .slice A6 n6 c6] 31)).heap.size by simp]; exact blk_new _ _
  obtain ⟨bx, hbx⟩ : ∃ bx, bx = W.heap.size := ⟨_, rfl⟩
  obtain ⟨rb, hrb⟩ : ∃ rb, rb = W.heap.size + 1 := ⟨_, rfl⟩
  rw [← hw1, ← hrb]
  rw [show (Value.pointer (some ⟨W.heap.size, 0, none⟩)) = .pointer (some ⟨bx, 0, none⟩) by rw [hbx]]
  rw [← hrb] at f1
  rw [← hbx] at f0
  have LB := Aside0.mk (show W.heap.size ≤ bx ∧ W.heap.size ≤ rb ∧ bx ≠ rb ∧ bx < w1.heap.size ∧ rb < w1.heap.size from ⟨by omega, by omega, by omega, by omega, by omega⟩)
  have F0 := Aside0.mk f0
  have F1 := Aside0.mk f1
  have HB1 := Aside0.mk hb1
  have HS1 := Aside0.mk hs1
  clear hw1 hb1 hs1 f0 f1 hbx hrb
  have HBW := Aside0.mk HB1.out
  refine (HT.out w1).mono ?_
  rintro e w2 ⟨rfl, hb⟩
  have g0 := blk_below F0.out hb
  have g1 := blk_below F1.out hb
  have hbw := HB1.out.trans (hb.mono HB1.out.size)
  obtain ⟨k0, k1, k2, k3, k4, k5, k6⟩ := cells7 g0
  obtain ⟨z0, z1, z2, z3, z4, z5, z6⟩ := froz7 g0
  obtain ⟨r0, r1, r2, r3, r4, r5, r6⟩ := cells7 g1
  obtain ⟨s0, s1, s2, s3, s4, s5, s6⟩ := froz7 g1
  have ne1 : bx ≠ rb := LB.out.2.2.1
  have ne2 : rb ≠ bx := fun e => ne1 e.symm
  have G1 := Aside0.mk g1
  clear g0 g1 hb F0 F1
  go_wp2_with fail
  have hbC := set7_below hbw LB.out.2.1 (.slice A0 n0 c0) (.slice A1 n1 c1) (.slice A2 n2 c2) (.slice A3 n3 c3) (.bool fa) (.int .i64 fu) (.slice A6 n6 c6)
  refine bodyPost_ret (results_ct rfl _ _ rb 31 #[.slice A0 n0 c0, .slice A1 n1 c1, .slice A2 n2 c2, .slice A3 n3 c3, .bool fa, .int .i64 fu, .slice A6 n6 c6] (0, 0) _ rfl (set7_blk G1.out (.slice A0 n0 c0) (.slice A1 n1 c1) (.slice A2 n2 c2) (.slice A3 n3 c3) (.bool fa) (.int .i64 fu) (.slice A6 n6 c6)) Try.underlying31 rfl (by kernel_rfl)) rfl ?_
  refine ⟨_, rfl, ?_, hbC⟩
  exact (HR.out.below hbC).mono (fun k hk _ => Or.inl hk)
end
end Go.Proofs.Ytflajmgichdhhaa.PG
namespace Go.Proofs.Ytflajmgichdhhaa.PG
open Go.RowKit Go.Proofs.YtflajmgichdhhaaW.PrintWords Go.Proofs.YtflajmgichdhhaaW.PrintLast Go.Proofs.YtflajmgichdhhaaW.PrintMore
set_option linter.unusedVariables false
set_option linter.unusedSimpArgs false
def fenceL (fl : List Int) (s : Nat) (ep : Int) : List Int := if 0 ≤ ep ∧ fl.getD s 0 ≤ ep then fl.set s (min ep 1099511627776 + 1) else fl
theorem fence_at (S : DevS) (s : Nat) (h1 : 1 ≤ s) (h4 : s ≤ 4) (ep a : Int) : (fenceS S s ep).fences a = if a = s ∧ (∀ f, S.fences s = some f → f < ep) then some ep else S.fences a := by
 unfold fenceS
 rw [if_neg (by omega)]
 cases hf : S.fences (s : Int) with
 | none =>
  rw [if_pos rfl]
  show (if a = (s : Int) then some ep else S.fences a) = _
  by_cases e : a = (s : Int)
  ·rw [if_pos e, if_pos ⟨e, fun f z => by cases z⟩]
  ·rw [if_neg e, if_neg (fun z => e z.1)]
 | some f =>
  by_cases hd : f < ep
  ·simp only [hd, decide_true, if_true]
   by_cases e : a = (s : Int)
   ·rw [if_pos e, if_pos ⟨e, fun f' z => by cases z; exact hd⟩]
   ·rw [if_neg e, if_neg (fun z => e z.1)]
  ·simp only [hd, decide_false]
   rw [if_neg (by simp), if_neg (fun z => hd (z.2 f rfl))]
theorem fok_fence {fl : List Int} {S : DevS} (h : FencesOk fl S.fences) (hl : fl.length = 5) (s : Nat) (h1 : 1 ≤ s) (h4 : s ≤ 4) (ep : Int) : FencesOk (fenceL fl s ep) (fenceS S s ep).fences := by
 intro t t1 t4
 obtain ⟨a, b, c⟩ := h t t1 t4
 unfold fenceL
 by_cases hc : 0 ≤ ep ∧ fl.getD s 0 ≤ ep
 ·rw [if_pos hc]
  by_cases e : s = t
  ·subst e
   have hg : (fl.set s (min ep 1099511627776 + 1)).getD s 0 = min ep 1099511627776 + 1 := by
    rw [List.getD_eq_getElem?_getD, List.getElem?_set, if_pos rfl, if_pos (by omega)]; rfl
   rw [hg]
   refine ⟨by omega, by omega, fun x x0 x1 => ?_⟩
   rw [fence_at S s h1 h4]
   by_cases hq : ∀ f, S.fences s = some f → f < ep
   ·rw [if_pos ⟨rfl, hq⟩]
    exact ⟨fun z => ⟨ep, rfl, by omega⟩, fun ⟨f, z, y⟩ => by cases z; omega⟩
   ·rw [if_neg (fun z => hq z.2)]
    rw [← c x x0 x1]
    have hf : ∃ f, S.fences s = some f ∧ ep ≤ f := by
     cases hx : S.fences (s : Int) with
     | none => exact absurd (fun f z => by rw [hx] at z; cases z) hq
     | some f => exact ⟨f, rfl, by
       by_cases hh : f < ep
       ·exact absurd (fun f' z => by rw [hx] at z; cases z; exact hh) hq
       ·omega⟩
    by_cases hep : ep ≤ 1099511627776
    ·have := (c ep hc.1 hep).2 hf
     omega
    ·have := (c 1099511627776 (by decide) (by decide)).2 (by obtain ⟨f, z, y⟩ := hf; exact ⟨f, z, by omega⟩)
     constructor <;> intro _ <;> omega
  ·have hg : (fl.set s (min ep 1099511627776 + 1)).getD t 0 = fl.getD t 0 := by
    rw [List.getD_eq_getElem?_getD, List.getElem?_set, if_neg e, List.getD_eq_getElem?_getD]
   rw [hg]
   refine ⟨a, b, fun x x0 x1 => ?_⟩
   rw [fence_at S s h1 h4, if_neg (fun z => e (by have := z.1; omega))]
   exact c x x0 x1
 ·rw [if_neg hc]
  refine ⟨a, b, fun x x0 x1 => ?_⟩
  rw [fence_at S s h1 h4]
  by_cases e : (t : Int) = s ∧ (∀ f, S.fences s = some f → f < ep)
  ·rw [if_pos e]
   have ets : t = s := by have := e.1; omega
   subst ets
   rw [c x x0 x1]
   constructor
   ·rintro ⟨f, z, y⟩
    have := e.2 f z
    exact ⟨ep, rfl, by omega⟩
   ·rintro ⟨f, z, y⟩
    cases z
    have hn : ¬ fl.getD t 0 ≤ ep := fun z => hc ⟨by omega, z⟩
    exact (c x x0 x1).1 (by omega)
  ·rw [if_neg e]
   exact c x x0 x1
end Go.Proofs.Ytflajmgichdhhaa.PG
namespace Go.Proofs.Ytflajmgichdhhaa.PG
open Go.RowKit Go.Proofs.YtflajmgichdhhaaW.PrintWords Go.Proofs.YtflajmgichdhhaaW.PrintLast Go.Proofs.YtflajmgichdhhaaW.PrintMore
set_option linter.unusedVariables false
set_option linter.unusedSimpArgs false
theorem fence_same (S : DevS) (sys ep : Int) : (fenceS S sys ep).stable = S.stable ∧ (fenceS S sys ep).old = S.old ∧ (fenceS S sys ep).pend = S.pend ∧ (fenceS S sys ep).failed = S.failed ∧ (fenceS S sys ep).fset = S.fset ∧ (fenceS S sys ep).left = S.left ∧ (fenceS S sys ep).surv = S.surv := by
 unfold fenceS
 split
 ·exact ⟨rfl, rfl, rfl, rfl, rfl, rfl, rfl⟩
 ·split
  all_goals split
  all_goals exact ⟨rfl, rfl, rfl, rfl, rfl, rfl, rfl⟩
section
variable {W : World} {ok : Nat → Prop} {v : Value} {S : DevS}
attribute [local go_sem] max2_int min2_int max_two min_two
set_option maxRecDepth 100000 in
set_option maxHeartbeats 4000000 in
theorem fence_ref (hR : RefIs W ok v S) (sys ep : Int) : Calls Try.prog 31 #[v, .int .i64 sys, .int .i64 ep] W fun e W' => RChPost ok (fenceS S sys ep) W e W' := by
 obtain ⟨v0, v1, v2, v3, v6, fl, fu, sv, hA⟩ := id hR
 obtain rfl := hA.hv
 obtain ⟨A0, c0, e0, hl0, hF0⟩ := hA.h0
 obtain ⟨A1, c1, e1, hl1, hF1⟩ := hA.h1
 obtain ⟨A2, c2, e2, hl2, hF2⟩ := hA.h2
 obtain ⟨A3, c3, e3, hl3, hF3⟩ := hA.h3
 obtain ⟨A6, c6, e6, hl6, hF6⟩ := hA.h6
 subst e0 e1 e2 e3 e6
 have HR := Aside0.mk hR
 have HA := Aside0.mk hA
 have HF0 := Aside0.mk hF0
 have HF1 := Aside0.mk hF1
 have HF2 := Aside0.mk hF2
 have HF3 := Aside0.mk hF3
 obtain ⟨n0, hn0⟩ : ∃ n0, n0 = S.stable.length := ⟨_, rfl⟩
 obtain ⟨n1, hn1⟩ : ∃ n1, n1 = S.old.length := ⟨_, rfl⟩
 obtain ⟨n2, hn2⟩ : ∃ n2, n2 = S.pend.length := ⟨_, rfl⟩
 obtain ⟨n3, hn3⟩ : ∃ n3, n3 = fl.length := ⟨_, rfl⟩
 obtain ⟨n6, hn6⟩ : ∃ n6, n6 = sv.length := ⟨_, rfl⟩
 obtain ⟨fa, hfa⟩ : ∃ fa, fa = S.failed := ⟨_, rfl⟩
 have EQ := Aside0.mk (show n0 = S.stable.length ∧ n1 = S.old.length ∧ n2 = S.pend.length ∧ n3 = fl.length ∧ n6 = sv.length ∧ fa = S.failed from ⟨hn0, hn1, hn2, hn3, hn6, hfa⟩)
 rw [← hn0, ← hn1, ← hn2, ← hn3, ← hn6, ← hfa]
 rw [← hn0, ← hn1, ← hn2, ← hn3, ← hn6, ← hfa] at HR
 clear hR hA hF0 hF1 hF2 hF3 hF6 hl0 hl1 hl2 hl3 hl6 hn0 hn1 hn2 hn3 hn6 hfa
 by_cases hs : sys < 1 ∨ 4 < sys
 ·have hu : fenceS S sys ep = S := by unfold fenceS; rw [if_pos hs]
  rw [hu]
  have ways : (decide (sys < 1) = true) ∨ (decide (sys < 1) = false ∧ decide (4 < sys) = true) := by
   by_cases h : sys < 1
   ·exact Or.inl (decide_eq_true h)
   ·exact Or.inr ⟨decide_eq_false h, decide_eq_true (hs.resolve_left h)⟩
  clear hu hs
  rcases ways with d1 | ⟨d1, d2⟩
  ·go_enter Try.func31, Try.ntmps31
   go_wp2_with fail
   have hx2 : ((W.alloc (.cells #[.slice A0 n0 c0, .slice A1 n1 c1, .slice A2 n2 c2, .slice A3 n3 c3, .bool fa, .int .i64 fu, .slice A6 n6 c6] 31)).alloc (.cells #[.slice A0 n0 c0, .slice A1 n1 c1, .slice A2 n2 c2, .slice A3 n3 c3, .bool fa, .int .i64 fu, .slice A6 n6 c6] 31)).heap[W.heap.size + 1]? = some (.cells #[.slice A0 n0 c0, .slice A1 n1 c1, .slice A2 n2 c2, .slice A3 n3 c3, .bool fa, .int .i64 fu, .slice A6 n6 c6] 31 (0, 0)) := by
    rw [show W.heap.size + 1 = (W.alloc (.cells #[.slice A0 n0 c0, .slice A1 n1 c1, .slice A2 n2 c2, .slice A3 n3 c3, .bool fa, .int .i64 fu, .slice A6 n6 c6] 31)).heap.size by simp]; exact blk_new _ _
   have hb2 : Below W.heap.size W ((W.alloc (.cells #[.slice A0 n0 c0, .slice A1 n1 c1, .slice A2 n2 c2, .slice A3 n3 c3, .bool fa, .int .i64 fu, .slice A6 n6 c6] 31)).alloc (.cells #[.slice A0 n0 c0, .slice A1 n1 c1, .slice A2 n2 c2, .slice A3 n3 c3, .bool fa, .int .i64 fu, .slice A6 n6 c6] 31)) := below_alloc (below_alloc (Below.refl _ _) _) _
   refine bodyPost_ret (results_c rfl _ _ (W.heap.size + 1) 31 #[.slice A0 n0 c0, .slice A1 n1 c1, .slice A2 n2 c2, .slice A3 n3 c3, .bool fa, .int .i64 fu, .slice A6 n6 c6] (0, 0) _ rfl hx2 Try.underlying31 rfl (by kernel_rfl)) rfl ?_
   refine ⟨_, rfl, ?_, hb2⟩
   exact (HR.out.below hb2).mono (fun k hk _ => Or.inl hk)
  ·go_enter Try.func31, Try.ntmps31
   go_wp2_with fail
   have hx2 : ((W.alloc (.cells #[.slice A0 n0 c0, .slice A1 n1 c1, .slice A2 n2 c2, .slice A3 n3 c3, .bool fa, .int .i64 fu, .slice A6 n6 c6] 31)).alloc (.cells #[.slice A0 n0 c0, .slice A1 n1 c1, .slice A2 n2 c2, .slice A3 n3 c3, .bool fa, .int .i64 fu, .slice A6 n6 c6] 31)).heap[W.heap.size + 1]? = some (.cells #[.slice A0 n0 c0, .slice A1 n1 c1, .slice A2 n2 c2, .slice A3 n3 c3, .bool fa, .int .i64 fu, .slice A6 n6 c6] 31 (0, 0)) := by
    rw [show W.heap.size + 1 = (W.alloc (.cells #[.slice A0 n0 c0, .slice A1 n1 c1, .slice A2 n2 c2, .slice A3 n3 c3, .bool fa, .int .i64 fu, .slice A6 n6 c6] 31)).heap.size by simp]; exact blk_new _ _
   have hb2 : Below W.heap.size W ((W.alloc (.cells #[.slice A0 n0 c0, .slice A1 n1 c1, .slice A2 n2 c2, .slice A3 n3 c3, .bool fa, .int .i64 fu, .slice A6 n6 c6] 31)).alloc (.cells #[.slice A0 n0 c0, .slice A1 n1 c1, .slice A2 n2 c2, .slice A3 n3 c3, .bool fa, .int .i64 fu, .slice A6 n6 c6] 31)) := below_alloc (below_alloc (Below.refl _ _) _) _
   refine bodyPost_ret (results_c rfl _ _ (W.heap.size + 1) 31 #[.slice A0 n0 c0, .slice A1 n1 c1, .slice A2 n2 c2, .slice A3 n3 c3, .bool fa, .int .i64 fu, .slice A6 n6 c6] (0, 0) _ rfl hx2 Try.underlying31 rfl (by kernel_rfl)) rfl ?_
   refine ⟨_, rfl, ?_, hb2⟩
   exact (HR.out.below hb2).mono (fun k hk _ => Or.inl hk)
 ·have d1 : decide (sys < 1) = false := decide_eq_false (fun h => hs (Or.inl h))
  have d2 : decide (4 < sys) = false := decide_eq_false (fun h => hs (Or.inr h))
  obtain ⟨s, rfl⟩ := Int.eq_ofNat_of_zero_le (show 0 ≤ sys by omega)
  have hs1 : 1 ≤ s := by omega
  have hs4 : s ≤ 4 := by omega
  clear hs
  have hfo := fok_fence HA.out.fok HA.out.fl5 s hs1 hs4 ep
  by_cases hep : ep < 0
  ·have hde : decide (ep < 0) = true := decide_eq_true hep
   have hfl : fenceL fl s ep = fl := by unfold fenceL; rw [if_neg (by omega)]
   rw [hfl] at hfo
   have HFO := Aside0.mk hfo
   clear hep hfl hfo
   go_enter Try.func31, Try.ntmps31
   go_wp2_with fail
   have hx2 : ((W.alloc (.cells #[.slice A0 n0 c0, .slice A1 n1 c1, .slice A2 n2 c2, .slice A3 n3 c3, .bool fa, .int .i64 fu, .slice A6 n6 c6] 31)).alloc (.cells #[.slice A0 n0 c0, .slice A1 n1 c1, .slice A2 n2 c2, .slice A3 n3 c3, .bool fa, .int .i64 fu, .slice A6 n6 c6] 31)).heap[W.heap.size + 1]? = some (.cells #[.slice A0 n0 c0, .slice A1 n1 c1, .slice A2 n2 c2, .slice A3 n3 c3, .bool fa, .int .i64 fu, .slice A6 n6 c6] 31 (0, 0)) := by
    rw [show W.heap.size + 1 = (W.alloc (.cells #[.slice A0 n0 c0, .slice A1 n1 c1, .slice A2 n2 c2, .slice A3 n3 c3, .bool fa, .int .i64 fu, .slice A6 n6 c6] 31)).heap.size by simp]; exact blk_new _ _
   have hb2 : Below W.heap.size W ((W.alloc (.cells #[.slice A0 n0 c0, .slice A1 n1 c1, .slice A2 n2 c2, .slice A3 n3 c3, .bool fa, .int .i64 fu, .slice A6 n6 c6] 31)).alloc (.cells #[.slice A0 n0 c0, .slice A1 n1 c1, .slice A2 n2 c2, .slice A3 n3 c3, .bool fa, .int .i64 fu, .slice A6 n6 c6] 31)) := below_alloc (below_alloc (Below.refl _ _) _) _
   refine bodyPost_ret (results_c rfl _ _ (W.heap.size + 1) 31 #[.slice A0 n0 c0, .slice A1 n1 c1, .slice A2 n2 c2, .slice A3 n3 c3, .bool fa, .int .i64 fu, .slice A6 n6 c6] (0, 0) _ rfl hx2 Try.underlying31 rfl (by kernel_rfl)) rfl ?_
   refine ⟨_, rfl, ?_, hb2⟩
   obtain ⟨rfl, rfl, rfl, rfl, rfl, rfl⟩ := EQ.out
   obtain ⟨p1, p2, p3, p4, p5, p6, p7⟩ := fence_same S s ep
   exact HA.out.re hb2 _ fu _ p1 p2 p3 p4.symm HFO.out ⟨(fun z => HA.out.uok.1 (by rw [← p5]; exact z)), (fun z => by obtain ⟨y1, y2⟩ := HA.out.uok.2 (by rw [← p5]; exact z); exact ⟨y1.trans p6.symm, y2.trans p7.symm⟩)⟩
  ·have hde : decide (ep < 0) = false := decide_eq_false hep
   have HFO := Aside0.mk hfo
   have HEP := Aside0.mk hep
   have hn3 : n3 = 5 := by rw [EQ.out.2.2.2.1]; exact HA.out.fl5
   have HN3 := Aside0.mk hn3
   have hsn : (s : Int) < (n3 : Int) := by omega
   have hsn1 : s < n3 := by omega
   clear hep hfo hn3
   go_enter Try.func31, Try.ntmps31
   go_wp2_with (at_builtin; with_reducible refine stopHere ?_)
   obtain ⟨f0, f1, f2, fb⟩ := three W (.cells #[.slice A0 n0 c0, .slice A1 n1 c1, .slice A2 n2 c2, .slice A3 n3 c3, .bool fa, .int .i64 fu, .slice A6 n6 c6] 31) (.cells #[.slice none 0 0, .slice none 0 0, .slice none 0 0, .slice none 0 0, .bool false, .int .i64 0, .slice none 0 0] 31) (.cells #[] 3)
   obtain ⟨w3, hw3⟩ : ∃ w3, w3 = ((W.alloc (.cells #[.slice A0 n0 c0, .slice A1 n1 c1, .slice A2 n2 c2, .slice A3 n3 c3, .bool fa, .int .i64 fu, .slice A6 n6 c6] 31)).alloc (.cells #[.slice none 0 0, .slice none 0 0, .slice none 0 0, .slice none 0 0, .bool false, .int .i64 0, .slice none 0 0] 31)).alloc (.cells #[] 3) := ⟨_, rfl⟩
   rw [← hw3] at f0 f1 f2 fb ⊢
   obtain ⟨bx, hbx⟩ : ∃ bx, bx = W.heap.size := ⟨_, rfl⟩
   obtain ⟨rb, hrb⟩ : ∃ rb, rb = W.heap.size + 1 := ⟨_, rfl⟩
   obtain ⟨e0, he0⟩ : ∃ e0, e0 = W.heap.size + 1 + 1 := ⟨_, rfl⟩
   rw [← he0] at f2 ⊢
   rw [← hrb] at f1 ⊢
   rw [show (Value.pointer (some ⟨W.heap.size, 0, none⟩)) = .pointer (some ⟨bx, 0, none⟩) by rw [hbx]]
   rw [← hbx] at f0
   have LB := Aside0.mk (show W.heap.size ≤ bx ∧ W.heap.size ≤ rb ∧ W.heap.size ≤ e0 ∧ bx ≠ rb ∧ bx ≠ e0 ∧ rb ≠ e0 from ⟨by omega, by omega, by omega, by omega, by omega, by omega⟩)
   clear hw3 hbx hrb he0
   refine ⟨?_⟩
   refine Kd.R_append_rows (Kd.int .i64) (w0 := W) W.heap.size rfl (.tmp 18) (.tmp 20) 29 3 (.int .i64 0) 8 rfl Try.underlying29 info3 rfl (by decide) (by omega) _ [] fl A3 n3 c3 (fun k => W.heap.size ≤ k) (fun _ => False) rfl rfl (empty_own' f2 LB.out.2.2.1) (by rw [EQ.out.2.2.2.1]; exact Kd.C_below (Kd.F_now HF3.out) fb) (fun _ _ h => h) (fun _ h => h.elim) (fun k hk => Nat.le_trans fb.size hk) fb fb.size (by have := HN3.out; simp; omega) ?_
   intro v1 w4 hR1 hb4 hg4 hat4
   rw [List.nil_append] at hR1
   obtain ⟨g1, cap1, cur1, hv1, hge1, hh1, hle1, hmx1, hcur1⟩ := own_open hR1 (by have := HA.out.fl5; omega)
   rw [← EQ.out.2.2.2.1] at hv1 hle1
   subst hv1
   have f0 : w4.heap[bx]? = some (.cells #[.slice A0 n0 c0, .slice A1 n1 c1, .slice A2 n2 c2, .slice A3 n3 c3, .bool fa, .int .i64 fu, .slice A6 n6 c6] 31 (0, 0)) := (hg4.block bx (blk_lt f0) (fun e => LB.out.2.2.2.2.1 (Option.some.inj e))).trans f0
   have f1 : w4.heap[rb]? = some (.cells #[.slice none 0 0, .slice none 0 0, .slice none 0 0, .slice none 0 0, .bool false, .int .i64 0, .slice none 0 0] 31 (0, 0)) := (hg4.block rb (blk_lt f1) (fun e => LB.out.2.2.2.2.2 (Option.some.inj e))).trans f1
   obtain ⟨k0, k1, k2, k3, k4, k5, k6⟩ := cells7 f0
   obtain ⟨z0, z1, z2, z3, z4, z5, z6⟩ := froz7 f0
   obtain ⟨r0, r1, r2, r3, r4, r5, r6⟩ := cells7 f1
   obtain ⟨s0, s1, s2, s3, s4, s5, s6⟩ := froz7 f1
   obtain ⟨x, hx⟩ : ∃ x, x = fl.getD s 0 := ⟨_, rfl⟩
   have hfx : fl[s]? = some x := by rw [hx, List.getD_eq_getElem?_getD, List.getElem?_eq_getElem (by have := HA.out.fl5; omega)]; rfl
   have y0 : w4.cell? ⟨g1, s, none⟩ = some (.int .i64 x) := by rw [blk_cell hh1]; exact hcur1 s x hfx
   have yz : w4.frozen? ⟨g1, s, none⟩ = false := blk_frozen hh1 s
   have ne1 : bx ≠ rb := LB.out.2.2.2.1
   have ne2 : rb ≠ bx := fun e => ne1 e.symm
   have ne3 : g1 ≠ bx := blk_ne hh1 f0 (by decide)
   have ne4 : bx ≠ g1 := fun e => ne3 e.symm
   have ne5 : g1 ≠ rb := blk_ne hh1 f1 (by decide)
   have ne6 : rb ≠ g1 := fun e => ne5 e.symm
   have F0 := Aside0.mk f0
   have F1 := Aside0.mk f1
   have H1 := Aside0.mk hh1
   have HX := Aside0.mk hx
   have HB4 := Aside0.mk hb4
   have HCU := Aside0.mk hcur1
   have L1 := Aside0.mk (show W.heap.size ≤ g1 from hge1)
   have HL1 := Aside0.mk hle1
   clear f0 f1 f2 fb hR1 hb4 hg4 hat4 hx hfx hh1 hge1 hmx1 hcur1
   by_cases hxe : x ≤ ep
   ·have hxd : decide (x ≤ ep) = true := decide_eq_true hxe
    have HXE := Aside0.mk hxe
    by_cases hM : 1099511627776 < ep
    ·have hfl : fenceL fl s ep = fl.set s 1099511627777 := by unfold fenceL; rw [if_pos ⟨by have := HEP.out; omega, by rw [← HX.out]; exact hxe⟩]; congr 1; omega
     rw [hfl] at HFO
     have hM2 : ¬ ep < 1099511627776 := by omega
     clear hfl hxe
     go_wp2_with fail
     obtain ⟨wB, hwB⟩ : ∃ wB, wB = ((w4.setCell ⟨bx, 3, none⟩ (.slice (some ⟨g1, 0, none⟩) n3 cap1)).setCell ⟨g1, s, none⟩ (.int .i64 (1099511627777))) := ⟨_, rfl⟩
     have hfB : ∀ k, k ≠ bx → k ≠ g1 → wB.heap[k]? = w4.heap[k]? := fun k h1 h2 => by rw [hwB]; exact (Below.heap_setCell _ _ _ _ h2).trans (Below.heap_setCell _ _ _ _ h1)
     have hB1 : wB.heap[rb]? = some (.cells #[.slice none 0 0, .slice none 0 0, .slice none 0 0, .slice none 0 0, .bool false, .int .i64 0, .slice none 0 0] 31 (0, 0)) := (hfB rb ne2 ne6).trans F1.out
     have hBg : wB.heap[g1]? = some (.cells (cur1.setIfInBounds s (.int .i64 (1099511627777))) 3 (0, 0)) := by rw [hwB]; exact blk_put ((Below.heap_setCell _ _ _ _ ne3).trans H1.out) s _ rfl
     have hbB : Below W.heap.size W wB := by rw [hwB]; exact (HB4.out.setCell (p := ⟨bx, 3, none⟩) LB.out.1 _).setCell (p := ⟨g1, s, none⟩) L1.out _
     have hbC := set7_below hbB LB.out.2.1 (.slice A0 n0 c0) (.slice A1 n1 c1) (.slice A2 n2 c2) (.slice (some ⟨g1, 0, none⟩) n3 cap1) (.bool fa) (.int .i64 fu) (.slice A6 n6 c6)
     rw [← hwB]
     refine bodyPost_ret (results_c rfl _ _ rb 31 #[.slice A0 n0 c0, .slice A1 n1 c1, .slice A2 n2 c2, .slice (some ⟨g1, 0, none⟩) n3 cap1, .bool fa, .int .i64 fu, .slice A6 n6 c6] (0, 0) _ rfl (set7_blk hB1 (.slice A0 n0 c0) (.slice A1 n1 c1) (.slice A2 n2 c2) (.slice (some ⟨g1, 0, none⟩) n3 cap1) (.bool fa) (.int .i64 fu) (.slice A6 n6 c6)) Try.underlying31 rfl (by kernel_rfl)) rfl ?_
     refine ⟨_, rfl, ?_, hbC⟩
     have mv : ∀ {α : Type} {d : Kd α} {e : Nat} {u : Value} {xs : List α}, Kd.V d e W 0 ok u xs → Kd.V d e (set7 wB rb (.slice A0 n0 c0) (.slice A1 n1 c1) (.slice A2 n2 c2) (.slice (some ⟨g1, 0, none⟩) n3 cap1) (.bool fa) (.int .i64 fu) (.slice A6 n6 c6)) 0 (fun k => ok k ∨ W.heap.size ≤ k) u xs := fun hu => Kd.V_mono (Kd.V_below hu hbC) (fun k hk => Or.inl hk)
     have hg7 := (set7_far wB rb (.slice A0 n0 c0) (.slice A1 n1 c1) (.slice A2 n2 c2) (.slice (some ⟨g1, 0, none⟩) n3 cap1) (.bool fa) (.int .i64 fu) (.slice A6 n6 c6) g1 ne5).trans hBg
     have hln := HA.out.fl5
     have hn5 := HN3.out
     have hV := scal_V (enc := Value.int .i64) (h1 := fun _ => rfl) (cap := cap1) (xs := fl.set s (1099511627777)) hg7 (by first | (simp; omega) | omega) (by have := HL1.out; first | (simp; omega) | omega) (set_cur (Value.int .i64) HCU.out s (by omega) _ _ rfl)
     obtain ⟨t0, t1, t2, t3, t4, t5⟩ := EQ.out
     rw [List.length_set, ← t3] at hV
     have hA := HA.out
     rw [← t0, ← t1, ← t2, ← t4] at hA
     obtain ⟨p1, p2, p3, p4, p5, p6, p7⟩ := fence_same S s ep
     exact ⟨_, _, _, _, _, fl.set s (1099511627777), fu, sv, { hv := by rw [p4, ← t5], h0 := by rw [p1]; exact mv hA.h0, h1 := by rw [p2]; exact mv hA.h1, h2 := by rw [p3]; exact mv hA.h2, h3 := Kd.V_mono hV (fun k hk => by rw [hk]; exact Or.inr L1.out), h6 := mv hA.h6, fl5 := by rw [List.length_set]; exact hln, fok := HFO.out, uok := ⟨(fun z => hA.uok.1 (by rw [← p5]; exact z)), (fun z => by obtain ⟨y1, y2⟩ := hA.uok.2 (by rw [← p5]; exact z); exact ⟨y1.trans p6.symm, y2.trans p7.symm⟩)⟩ }⟩
    ·have hfl : fenceL fl s ep = fl.set s (ep + 1) := by unfold fenceL; rw [if_pos ⟨by have := HEP.out; omega, by rw [← HX.out]; exact hxe⟩]; congr 1; omega
     rw [hfl] at HFO
     have hM3 : ep ≤ 1099511627776 := by omega
     have hM4 : 0 ≤ ep := by have := HEP.out; omega
     clear hfl hxe
     go_wp2_with fail
     obtain ⟨wB, hwB⟩ : ∃ wB, wB = ((w4.setCell ⟨bx, 3, none⟩ (.slice (some ⟨g1, 0, none⟩) n3 cap1)).setCell ⟨g1, s, none⟩ (.int .i64 (ep + 1))) := ⟨_, rfl⟩
     have hfB : ∀ k, k ≠ bx → k ≠ g1 → wB.heap[k]? = w4.heap[k]? := fun k h1 h2 => by rw [hwB]; exact (Below.heap_setCell _ _ _ _ h2).trans (Below.heap_setCell _ _ _ _ h1)
     have hB1 : wB.heap[rb]? = some (.cells #[.slice none 0 0, .slice none 0 0, .slice none 0 0, .slice none 0 0, .bool false, .int .i64 0, .slice none 0 0] 31 (0, 0)) := (hfB rb ne2 ne6).trans F1.out
     have hBg : wB.heap[g1]? = some (.cells (cur1.setIfInBounds s (.int .i64 (ep + 1))) 3 (0, 0)) := by rw [hwB]; exact blk_put ((Below.heap_setCell _ _ _ _ ne3).trans H1.out) s _ rfl
     have hbB : Below W.heap.size W wB := by rw [hwB]; exact (HB4.out.setCell (p := ⟨bx, 3, none⟩) LB.out.1 _).setCell (p := ⟨g1, s, none⟩) L1.out _
     have hbC := set7_below hbB LB.out.2.1 (.slice A0 n0 c0) (.slice A1 n1 c1) (.slice A2 n2 c2) (.slice (some ⟨g1, 0, none⟩) n3 cap1) (.bool fa) (.int .i64 fu) (.slice A6 n6 c6)
     rw [← hwB]
     refine bodyPost_ret (results_c rfl _ _ rb 31 #[.slice A0 n0 c0, .slice A1 n1 c1, .slice A2 n2 c2, .slice (some ⟨g1, 0, none⟩) n3 cap1, .bool fa, .int .i64 fu, .slice A6 n6 c6] (0, 0) _ rfl (set7_blk hB1 (.slice A0 n0 c0) (.slice A1 n1 c1) (.slice A2 n2 c2) (.slice (some ⟨g1, 0, none⟩) n3 cap1) (.bool fa) (.int .i64 fu) (.slice A6 n6 c6)) Try.underlying31 rfl (by kernel_rfl)) rfl ?_
     refine ⟨_, rfl, ?_, hbC⟩
     have mv : ∀ {α : Type} {d : Kd α} {e : Nat} {u : Value} {xs : List α}, Kd.V d e W 0 ok u xs → Kd.V d e (set7 wB rb (.slice A0 n0 c0) (.slice A1 n1 c1) (.slice A2 n2 c2) (.slice (some ⟨g1, 0, none⟩) n3 cap1) (.bool fa) (.int .i64 fu) (.slice A6 n6 c6)) 0 (fun k => ok k ∨ W.heap.size ≤ k) u xs := fun hu => Kd.V_mono (Kd.V_below hu hbC) (fun k hk => Or.inl hk)
     have hg7 := (set7_far wB rb (.slice A0 n0 c0) (.slice A1 n1 c1) (.slice A2 n2 c2) (.slice (some ⟨g1, 0, none⟩) n3 cap1) (.bool fa) (.int .i64 fu) (.slice A6 n6 c6) g1 ne5).trans hBg
     have hln := HA.out.fl5
     have hn5 := HN3.out
     have hV := scal_V (enc := Value.int .i64) (h1 := fun _ => rfl) (cap := cap1) (xs := fl.set s (ep + 1)) hg7 (by first | (simp; omega) | omega) (by have := HL1.out; first | (simp; omega) | omega) (set_cur (Value.int .i64) HCU.out s (by omega) _ _ rfl)
     obtain ⟨t0, t1, t2, t3, t4, t5⟩ := EQ.out
     rw [List.length_set, ← t3] at hV
     have hA := HA.out
     rw [← t0, ← t1, ← t2, ← t4] at hA
     obtain ⟨p1, p2, p3, p4, p5, p6, p7⟩ := fence_same S s ep
     exact ⟨_, _, _, _, _, fl.set s (ep + 1), fu, sv, { hv := by rw [p4, ← t5], h0 := by rw [p1]; exact mv hA.h0, h1 := by rw [p2]; exact mv hA.h1, h2 := by rw [p3]; exact mv hA.h2, h3 := Kd.V_mono hV (fun k hk => by rw [hk]; exact Or.inr L1.out), h6 := mv hA.h6, fl5 := by rw [List.length_set]; exact hln, fok := HFO.out, uok := ⟨(fun z => hA.uok.1 (by rw [← p5]; exact z)), (fun z => by obtain ⟨y1, y2⟩ := hA.uok.2 (by rw [← p5]; exact z); exact ⟨y1.trans p6.symm, y2.trans p7.symm⟩)⟩ }⟩
   ·have hxd : decide (x ≤ ep) = false := decide_eq_false hxe
    have hfl : fenceL fl s ep = fl := by unfold fenceL; rw [if_neg (fun z => hxe (by rw [HX.out]; exact z.2))]
    rw [hfl] at HFO
    clear hfl hxe
    go_wp2_with fail
    obtain ⟨wB, hwB⟩ : ∃ wB, wB = (w4.setCell ⟨bx, 3, none⟩ (.slice (some ⟨g1, 0, none⟩) n3 cap1)) := ⟨_, rfl⟩
    have hfB : ∀ k, k ≠ bx → k ≠ g1 → wB.heap[k]? = w4.heap[k]? := fun k h1 h2 => by rw [hwB]; exact (Below.heap_setCell _ _ _ _ h1)
    have hB1 : wB.heap[rb]? = some (.cells #[.slice none 0 0, .slice none 0 0, .slice none 0 0, .slice none 0 0, .bool false, .int .i64 0, .slice none 0 0] 31 (0, 0)) := (hfB rb ne2 ne6).trans F1.out
    have hBg : wB.heap[g1]? = some (.cells cur1 3 (0, 0)) := by rw [hwB]; exact (Below.heap_setCell _ _ _ _ ne3).trans H1.out
    have hbB : Below W.heap.size W wB := by rw [hwB]; exact HB4.out.setCell (p := ⟨bx, 3, none⟩) LB.out.1 _
    have hbC := set7_below hbB LB.out.2.1 (.slice A0 n0 c0) (.slice A1 n1 c1) (.slice A2 n2 c2) (.slice (some ⟨g1, 0, none⟩) n3 cap1) (.bool fa) (.int .i64 fu) (.slice A6 n6 c6)
    rw [← hwB]
    refine bodyPost_ret (results_c rfl _ _ rb 31 #[.slice A0 n0 c0, .slice A1 n1 c1, .slice A2 n2 c2, .slice (some ⟨g1, 0, none⟩) n3 cap1, .bool fa, .int .i64 fu, .slice A6 n6 c6] (0, 0) _ rfl (set7_blk hB1 (.slice A0 n0 c0) (.slice A1 n1 c1) (.slice A2 n2 c2) (.slice (some ⟨g1, 0, none⟩) n3 cap1) (.bool fa) (.int .i64 fu) (.slice A6 n6 c6)) Try.underlying31 rfl (by kernel_rfl)) rfl ?_
    refine ⟨_, rfl, ?_, hbC⟩
    have mv : ∀ {α : Type} {d : Kd α} {e : Nat} {u : Value} {xs : List α}, Kd.V d e W 0 ok u xs → Kd.V d e (set7 wB rb (.slice A0 n0 c0) (.slice A1 n1 c1) (.slice A2 n2 c2) (.slice (some ⟨g1, 0, none⟩) n3 cap1) (.bool fa) (.int .i64 fu) (.slice A6 n6 c6)) 0 (fun k => ok k ∨ W.heap.size ≤ k) u xs := fun hu => Kd.V_mono (Kd.V_below hu hbC) (fun k hk => Or.inl hk)
    have hg7 := (set7_far wB rb (.slice A0 n0 c0) (.slice A1 n1 c1) (.slice A2 n2 c2) (.slice (some ⟨g1, 0, none⟩) n3 cap1) (.bool fa) (.int .i64 fu) (.slice A6 n6 c6) g1 ne5).trans hBg
    have hln := HA.out.fl5
    have hn5 := HN3.out
    have hV := scal_V (enc := Value.int .i64) (h1 := fun _ => rfl) (cap := cap1) (xs := fl) hg7 (by first | (simp; omega) | omega) (by have := HL1.out; first | (simp; omega) | omega) (HCU.out)
    obtain ⟨t0, t1, t2, t3, t4, t5⟩ := EQ.out
    rw [← t3] at hV
    have hA := HA.out
    rw [← t0, ← t1, ← t2, ← t4] at hA
    obtain ⟨p1, p2, p3, p4, p5, p6, p7⟩ := fence_same S s ep
    exact ⟨_, _, _, _, _, fl, fu, sv, { hv := by rw [p4, ← t5], h0 := by rw [p1]; exact mv hA.h0, h1 := by rw [p2]; exact mv hA.h1, h2 := by rw [p3]; exact mv hA.h2, h3 := Kd.V_mono hV (fun k hk => by rw [hk]; exact Or.inr L1.out), h6 := mv hA.h6, fl5 := hln, fok := HFO.out, uok := ⟨(fun z => hA.uok.1 (by rw [← p5]; exact z)), (fun z => by obtain ⟨y1, y2⟩ := hA.uok.2 (by rw [← p5]; exact z); exact ⟨y1.trans p6.symm, y2.trans p7.symm⟩)⟩ }⟩
end
end Go.Proofs.Ytflajmgichdhhaa.PG
namespace Go.Proofs.Ytflajmgichdhhaa.PG
open Go.RowKit Go.Proofs.YtflajmgichdhhaaW.PrintWords Go.Proofs.YtflajmgichdhhaaW.PrintLast Go.Proofs.YtflajmgichdhhaaW.PrintMore
set_option linter.unusedVariables false
set_option linter.unusedSimpArgs false
section
variable {W : World} {ok : Nat → Prop} {v : Value} {S : DevS}
set_option maxRecDepth 100000 in
set_option maxHeartbeats 4000000 in
theorem return_ref {k : Nat} (hR : RefIs W ok v S) (hF : Fine k S) (sec back : Int) : Calls Try.prog 35 #[v, .int .i64 sec, .int .i64 back] W fun e W' => RPost2 ok (returnS S sec back).1 (returnS S sec back).2 W e W' := by
 have HF := Aside0.mk hF
 have HFL := Aside0.mk hF.len
 clear hF
 obtain ⟨v0, v1, v2, v3, v6, fl, fu, sv, hA⟩ := id hR
 obtain rfl := hA.hv
 obtain ⟨A0, c0, e0, hl0, hF0⟩ := hA.h0
 obtain ⟨A1, c1, e1, hl1, hF1⟩ := hA.h1
 obtain ⟨A2, c2, e2, hl2, hF2⟩ := hA.h2
 obtain ⟨A3, c3, e3, hl3, hF3⟩ := hA.h3
 obtain ⟨A6, c6, e6, hl6, hF6⟩ := hA.h6
 subst e0 e1 e2 e3 e6
 have HR := Aside0.mk hR
 have HA := Aside0.mk hA
 have HF0 := Aside0.mk hF0
 have HF1 := Aside0.mk hF1
 have HF2 := Aside0.mk hF2
 have HF3 := Aside0.mk hF3
 obtain ⟨n0, hn0⟩ : ∃ n0, n0 = S.stable.length := ⟨_, rfl⟩
 obtain ⟨n1, hn1⟩ : ∃ n1, n1 = S.old.length := ⟨_, rfl⟩
 obtain ⟨n2, hn2⟩ : ∃ n2, n2 = S.pend.length := ⟨_, rfl⟩
 obtain ⟨n3, hn3⟩ : ∃ n3, n3 = fl.length := ⟨_, rfl⟩
 obtain ⟨n6, hn6⟩ : ∃ n6, n6 = sv.length := ⟨_, rfl⟩
 obtain ⟨fa, hfa⟩ : ∃ fa, fa = S.failed := ⟨_, rfl⟩
 have EQ := Aside0.mk (show n0 = S.stable.length ∧ n1 = S.old.length ∧ n2 = S.pend.length ∧ n3 = fl.length ∧ n6 = sv.length ∧ fa = S.failed from ⟨hn0, hn1, hn2, hn3, hn6, hfa⟩)
 rw [← hn0, ← hn1, ← hn2, ← hn3, ← hn6, ← hfa]
 rw [← hn0, ← hn1, ← hn2, ← hn3, ← hn6, ← hfa] at HR
 clear hR hA hF0 hF1 hF2 hF3 hF6 hl0 hl1 hl2 hl3 hl6 hn0 hn1 hn2 hn3 hn6 hfa
 have HER := Aside0.mk (fun (w : World) (hb : Below W.heap.size W w) => show Calls Try.prog 42 #[.agg #[.slice A0 n0 c0, .slice A1 n1 c1, .slice A2 n2 c2, .slice A3 n3 c3, .bool fa, .int .i64 fu, .slice A6 n6 c6], .int .i64 sec] w fun e W' => e = .returned (.int .i64 (oldN S sec)) ∧ Below w.heap.size w W' from by
  obtain ⟨rfl, rfl, rfl, rfl, rfl, rfl⟩ := EQ.out
  exact earlier_ref w S.old (Kd.C_below (Kd.F_now HF1.out) hb) HFL.out sec)
 unfold RPost2
 by_cases h1 : back < 1
 ·have hu : returnS S sec back = (2, S) := by unfold returnS; rw [if_neg (fun z => by omega)]
  rw [hu]
  have d1 : decide (back < 1) = true := decide_eq_true h1
  clear hu h1
  go_enter Try.func35, Try.ntmps35
  go_wp2_with fail
  have hx2 : ((W.alloc (.cells #[.slice A0 n0 c0, .slice A1 n1 c1, .slice A2 n2 c2, .slice A3 n3 c3, .bool fa, .int .i64 fu, .slice A6 n6 c6] 31)).alloc (.cells #[.slice A0 n0 c0, .slice A1 n1 c1, .slice A2 n2 c2, .slice A3 n3 c3, .bool fa, .int .i64 fu, .slice A6 n6 c6] 31)).heap[W.heap.size + 1]? = some (.cells #[.slice A0 n0 c0, .slice A1 n1 c1, .slice A2 n2 c2, .slice A3 n3 c3, .bool fa, .int .i64 fu, .slice A6 n6 c6] 31 (0, 0)) := by
   rw [show W.heap.size + 1 = (W.alloc (.cells #[.slice A0 n0 c0, .slice A1 n1 c1, .slice A2 n2 c2, .slice A3 n3 c3, .bool fa, .int .i64 fu, .slice A6 n6 c6] 31)).heap.size by simp]; exact blk_new _ _
  have hb2 : Below W.heap.size W ((W.alloc (.cells #[.slice A0 n0 c0, .slice A1 n1 c1, .slice A2 n2 c2, .slice A3 n3 c3, .bool fa, .int .i64 fu, .slice A6 n6 c6] 31)).alloc (.cells #[.slice A0 n0 c0, .slice A1 n1 c1, .slice A2 n2 c2, .slice A3 n3 c3, .bool fa, .int .i64 fu, .slice A6 n6 c6] 31)) := below_alloc (below_alloc (Below.refl _ _) _) _
  refine bodyPost_ret (results_ct rfl _ _ (W.heap.size + 1) 31 #[.slice A0 n0 c0, .slice A1 n1 c1, .slice A2 n2 c2, .slice A3 n3 c3, .bool fa, .int .i64 fu, .slice A6 n6 c6] (0, 0) _ rfl hx2 Try.underlying31 rfl (by kernel_rfl)) rfl ?_
  refine ⟨_, rfl, ?_, hb2⟩
  exact (HR.out.below hb2).mono (fun k hk _ => Or.inl hk)
 ·have d1 : decide (back < 1) = false := decide_eq_false h1
  obtain ⟨q, hq⟩ : ∃ q, q = oldN S sec := ⟨_, rfl⟩
  by_cases h2 : q < back
  ·have hu : returnS S sec back = (2, S) := by
    unfold returnS
    rw [if_neg (fun z => by
     have : oldN S sec = ((S.old.getD sec.toNat []).length : Int) := by unfold oldN; rw [if_pos z.1]
     omega)]
   rw [hu]
   rw [← hq] at HER
   have d2 : decide (q < back) = true := decide_eq_true h2
   clear hu h1 h2 hq
   go_enter Try.func35, Try.ntmps35
   go_wp2_with fail
   obtain ⟨w1, hw1⟩ : ∃ w1, w1 = (W.alloc (.cells #[.slice A0 n0 c0, .slice A1 n1 c1, .slice A2 n2 c2, .slice A3 n3 c3, .bool fa, .int .i64 fu, .slice A6 n6 c6] 31)).alloc (.cells #[.slice none 0 0, .slice none 0 0, .slice none 0 0, .slice none 0 0, .bool false, .int .i64 0, .slice none 0 0] 31) := ⟨_, rfl⟩
   have hb1 : Below W.heap.size W w1 := by rw [hw1]; exact below_alloc (below_alloc (Below.refl _ _) _) _
   have hs1 : w1.heap.size = W.heap.size + 1 + 1 := by rw [hw1]; simp
   have f0 : w1.heap[W.heap.size]? = some (.cells #[.slice A0 n0 c0, .slice A1 n1 c1, .slice A2 n2 c2, .slice A3 n3 c3, .bool fa, .int .i64 fu, .slice A6 n6 c6] 31 (0, 0)) := by rw [hw1]; exact blk_below (blk_new _ _) (below_alloc (Below.refl _ _) _)
   have f1 : w1.heap[W.heap.size + 1]? = some (.cells #[.slice none 0 0, .slice none 0 0, .slice none 0 0, .slice none 0 0, .bool false, .int .i64 0, .slice none 0 0] 31 (0, 0)) := by rw [hw1, show W.heap.size + 1 = (W.alloc (.cells #[.slice A0 n0 c0, .slice A1 n1 c1, .slice A2 n2 c2, .slice A3 n3 c3, .bool fa, .int .i64 fu, .slice A6 n6 c6] 31)).heap.size by simp]; exact blk_new _ _
   obtain ⟨bx, hbx⟩ : ∃ bx, bx = W.heap.size := ⟨_, rfl⟩
   obtain ⟨rb, hrb⟩ : ∃ rb, rb = W.heap.size + 1 := ⟨_, rfl⟩
   rw [← hw1, ← hrb]
   rw [show (Value.pointer (some ⟨W.heap.size, 0, none⟩)) = .pointer (some ⟨bx, 0, none⟩) by rw [hbx]]
   rw [← hrb] at f1
   rw [← hbx] at f0
   have LB := Aside0.mk (show W.heap.size ≤ bx ∧ W.heap.size ≤ rb ∧ bx ≠ rb ∧ bx < w1.heap.size ∧ rb < w1.heap.size from ⟨by omega, by omega, by omega, by omega, by omega⟩)
   have F0 := Aside0.mk f0
   have F1 := Aside0.mk f1
   have HB1 := Aside0.mk hb1
   have HS1 := Aside0.mk hs1
   clear hw1 hb1 hs1 f0 f1 hbx hrb
   have HBW := Aside0.mk HB1.out
   refine (HER.out w1 HB1.out).mono ?_
   rintro e w2 ⟨rfl, hb⟩
   have g0 := blk_below F0.out hb
   have g1 := blk_below F1.out hb
   have hbw := HB1.out.trans (hb.mono HB1.out.size)
   obtain ⟨k0, k1, k2, k3, k4, k5, k6⟩ := cells7 g0
   obtain ⟨z0, z1, z2, z3, z4, z5, z6⟩ := froz7 g0
   obtain ⟨r0, r1, r2, r3, r4, r5, r6⟩ := cells7 g1
   obtain ⟨s0, s1, s2, s3, s4, s5, s6⟩ := froz7 g1
   have ne1 : bx ≠ rb := LB.out.2.2.1
   have ne2 : rb ≠ bx := fun e => ne1 e.symm
   have G1 := Aside0.mk g1
   clear g0 g1 hb F0 F1
   go_wp2_with fail
   have hbC := set7_below hbw LB.out.2.1 (.slice A0 n0 c0) (.slice A1 n1 c1) (.slice A2 n2 c2) (.slice A3 n3 c3) (.bool fa) (.int .i64 fu) (.slice A6 n6 c6)
   refine bodyPost_ret (results_ct rfl _ _ rb 31 #[.slice A0 n0 c0, .slice A1 n1 c1, .slice A2 n2 c2, .slice A3 n3 c3, .bool fa, .int .i64 fu, .slice A6 n6 c6] (0, 0) _ rfl (set7_blk G1.out (.slice A0 n0 c0) (.slice A1 n1 c1) (.slice A2 n2 c2) (.slice A3 n3 c3) (.bool fa) (.int .i64 fu) (.slice A6 n6 c6)) Try.underlying31 rfl (by kernel_rfl)) rfl ?_
   refine ⟨_, rfl, ?_, hbC⟩
   exact (HR.out.below hbC).mono (fun k hk _ => Or.inl hk)
  ·have hth : 0 ≤ sec ∧ sec < (S.stable.length : Int) := by
    by_cases h : 0 ≤ sec ∧ sec < (S.stable.length : Int)
    ·exact h
    ·have : oldN S sec = 0 := by unfold oldN; rw [if_neg h]
     omega
   have hon : oldN S sec = ((S.old.getD sec.toNat []).length : Int) := by unfold oldN; rw [if_pos hth]
   obtain ⟨i, rfl⟩ := Int.eq_ofNat_of_zero_le hth.1
   obtain ⟨b, rfl⟩ := Int.eq_ofNat_of_zero_le (show 0 ≤ back by omega)
   rw [Int.toNat_natCast] at hon
   have hu : returnS S (i : Int) (b : Int) = (0, { S with stable := S.stable.set i ((S.old.getD i []).getD (b - 1) ⟨#[]⟩) }) := by
    unfold returnS
    rw [Int.toNat_natCast, if_pos ⟨hth, by omega, by omega⟩, show ((b : Int) - 1).toNat = b - 1 by omega]
   rw [hu]
   have hin : i < n0 := by have := EQ.out.1; omega
   have hin1 : i < n1 := by have := EQ.out.2.1; have := HFL.out; omega
   obtain ⟨ad, Ai, ci, ea, y0, yl, yC⟩ := row_at (Kd.F_now HF1.out) i (by have := EQ.out.2.1; omega)
   obtain ⟨b', rfl⟩ : ∃ b', b = b' + 1 := ⟨b - 1, by omega⟩
   rw [show b' + 1 - 1 = b' by omega]
   obtain ⟨adi, ei, x0⟩ := Kd.at_string yC (b' : Int) (by omega) (by omega)
   rw [Int.toNat_natCast, show rdOf ByteArray.empty (S.old.getD i []) (b' : Int) = (S.old.getD i []).getD b' ⟨#[]⟩ by unfold rdOf; rw [Int.toNat_natCast]; rfl] at x0
   obtain ⟨x, hx⟩ : ∃ x, x = (S.old.getD i []).getD b' ⟨#[]⟩ := ⟨_, rfl⟩
   obtain ⟨ny, hny⟩ : ∃ ny, ny = (S.old.getD i []).length := ⟨_, rfl⟩
   rw [← hx] at x0 ⊢
   rw [← hny] at y0
   have hbz : b' < ny := by omega
   have hbzz : (b' : Int) < (ny : Int) := by omega
   have hny8 : ny ≤ 9223372036854775807 := by rw [hny]; exact yC.2.1
   subst ea
   subst ei
   have hinz : (i : Int) < (n0 : Int) := by omega
   have hinz1 : (i : Int) < (n1 : Int) := by omega
   have hnm : n0 ≤ 1155 := by have := HF.out.n1; have := EQ.out.1; omega
   have d2 : decide (q < ((b' + 1 : Nat) : Int)) = false := decide_eq_false h2
   have d3 : decide (q < (b' : Int) + 1) = false := decide_eq_false (by omega)
   have d4 : decide (((b' : Int) + 1) < 1) = false := decide_eq_false (by omega)
   rw [← hq] at HER
   have Y0 := Aside0.mk y0
   have X0 := Aside0.mk x0
   clear hu hth hon h1 h2 hq hx hny yl yC y0 x0
   go_enter Try.func35, Try.ntmps35
   go_wp2_with fail
   obtain ⟨w1, hw1⟩ : ∃ w1, w1 = (W.alloc (.cells #[.slice A0 n0 c0, .slice (some ad) n1 c1, .slice A2 n2 c2, .slice A3 n3 c3, .bool fa, .int .i64 fu, .slice A6 n6 c6] 31)).alloc (.cells #[.slice none 0 0, .slice none 0 0, .slice none 0 0, .slice none 0 0, .bool false, .int .i64 0, .slice none 0 0] 31) := ⟨_, rfl⟩
   have hb1 : Below W.heap.size W w1 := by rw [hw1]; exact below_alloc (below_alloc (Below.refl _ _) _) _
   have hs1 : w1.heap.size = W.heap.size + 1 + 1 := by rw [hw1]; simp
   have f0 : w1.heap[W.heap.size]? = some (.cells #[.slice A0 n0 c0, .slice (some ad) n1 c1, .slice A2 n2 c2, .slice A3 n3 c3, .bool fa, .int .i64 fu, .slice A6 n6 c6] 31 (0, 0)) := by rw [hw1]; exact blk_below (blk_new _ _) (below_alloc (Below.refl _ _) _)
   have f1 : w1.heap[W.heap.size + 1]? = some (.cells #[.slice none 0 0, .slice none 0 0, .slice none 0 0, .slice none 0 0, .bool false, .int .i64 0, .slice none 0 0] 31 (0, 0)) := by rw [hw1, show W.heap.size + 1 = (W.alloc (.cells #[.slice A0 n0 c0, .slice (some ad) n1 c1, .slice A2 n2 c2, .slice A3 n3 c3, .bool fa, .int .i64 fu, .slice A6 n6 c6] 31)).heap.size by simp]; exact blk_new _ _
   obtain ⟨bx, hbx⟩ : ∃ bx, bx = W.heap.size := ⟨_, rfl⟩
   obtain ⟨rb, hrb⟩ : ∃ rb, rb = W.heap.size + 1 := ⟨_, rfl⟩
   rw [← hw1, ← hrb]
   rw [show (Value.pointer (some ⟨W.heap.size, 0, none⟩)) = .pointer (some ⟨bx, 0, none⟩) by rw [hbx]]
   rw [← hrb] at f1
   rw [← hbx] at f0
   have LB := Aside0.mk (show W.heap.size ≤ bx ∧ W.heap.size ≤ rb ∧ bx ≠ rb ∧ bx < w1.heap.size ∧ rb < w1.heap.size from ⟨by omega, by omega, by omega, by omega, by omega⟩)
   have F0 := Aside0.mk f0
   have F1 := Aside0.mk f1
   have HB1 := Aside0.mk hb1
   have HS1 := Aside0.mk hs1
   clear hw1 hb1 hs1 f0 f1 hbx hrb
   refine (HER.out w1 HB1.out).mono ?_
   rintro e w2 ⟨rfl, hb⟩
   have g0 := blk_below F0.out hb
   have g1 := blk_below F1.out hb
   have HBW := Aside0.mk (HB1.out.trans (hb.mono HB1.out.size))
   obtain ⟨k0, k1, k2, k3, k4, k5, k6⟩ := cells7 g0
   obtain ⟨z0, z1, z2, z3, z4, z5, z6⟩ := froz7 g0
   obtain ⟨r0, r1, r2, r3, r4, r5, r6⟩ := cells7 g1
   obtain ⟨s0, s1, s2, s3, s4, s5, s6⟩ := froz7 g1
   have lbx := blk_lt g0
   have G0 := Aside0.mk g0
   have G1 := Aside0.mk g1
   clear g0 g1 hb F0 F1
   go_wp2_with (at_builtin; with_reducible refine stopHere ?_)
   obtain ⟨e0, he0⟩ : ∃ e0, e0 = w2.heap.size := ⟨_, rfl⟩
   obtain ⟨w3, hw3⟩ : ∃ w3, w3 = w2.alloc (.cells #[] 9) := ⟨_, rfl⟩
   have hb3 : Below w2.heap.size w2 w3 := by rw [hw3]; exact below_alloc (Below.refl _ _) _
   have f2 : w3.heap[e0]? = some (.cells #[] 9 (0, 0)) := by rw [hw3, he0]; exact blk_new _ _
   rw [← he0, ← hw3]
   have f0 := blk_below G0.out hb3
   have f1 := blk_below G1.out hb3
   have fb := HBW.out.trans (hb3.mono HBW.out.size)
   have hle0 : W.heap.size ≤ e0 := by rw [he0]; exact HBW.out.size
   have je0 : bx ≠ e0 := fun e => by have := blk_lt G0.out; omega
   have je1 : rb ≠ e0 := fun e => by have := blk_lt G1.out; omega
   clear hw3 he0 hb3 G0 G1 lbx k0 k1 k2 k3 k4 k5 k6 z0 z1 z2 z3 z4 z5 z6 r0 r1 r2 r3 r4 r5 r6 s0 s1 s2 s3 s4 s5 s6
   refine ⟨?_⟩
   refine Kd.R_append_rows Kd.string (w0 := W) W.heap.size rfl (.tmp 18) (.tmp 20) 26 9 (.string ⟨#[]⟩) 16 rfl Try.underlying26 info9 rfl (by decide) (by omega) _ [] S.stable A0 n0 c0 (fun k => W.heap.size ≤ k) (fun _ => False) rfl rfl (empty_own' f2 hle0) (by rw [EQ.out.1]; exact Kd.C_below (Kd.F_now HF0.out) fb) (fun _ _ h => h) (fun _ h => h.elim) (fun k hk => Nat.le_trans fb.size hk) fb fb.size (by simp; omega) ?_
   intro v1 w4 hR1 hb4 hg4 hat4
   rw [List.nil_append] at hR1
   obtain ⟨g1, cap1, cur1, hv1, hge1, hh1, hle1, hmx1, hcur1⟩ := own_open hR1 (by have := EQ.out.1; omega)
   rw [← EQ.out.1] at hv1 hle1
   subst hv1
   have f0 := (hg4.block bx (blk_lt f0) (fun e => je0 (Option.some.inj e))).trans f0
   have f1 := (hg4.block rb (blk_lt f1) (fun e => je1 (Option.some.inj e))).trans f1
   obtain ⟨k0, k1, k2, k3, k4, k5, k6⟩ := cells7 f0
   obtain ⟨z0, z1, z2, z3, z4, z5, z6⟩ := froz7 f0
   obtain ⟨r0, r1, r2, r3, r4, r5, r6⟩ := cells7 f1
   obtain ⟨s0, s1, s2, s3, s4, s5, s6⟩ := froz7 f1
   have y0 := (hb4.cell (World.block_lt_of_cell? _ _ Y0.out)).trans Y0.out
   have x0 := (hb4.cell (World.block_lt_of_cell? _ _ X0.out)).trans X0.out
   have q0 : ∃ u, w4.cell? ⟨g1, i, none⟩ = some u := ⟨_, by rw [blk_cell hh1]; exact hcur1 i _ (List.getElem?_eq_getElem (by have := EQ.out.1; omega))⟩
   obtain ⟨u, q0⟩ := q0
   have qz : w4.frozen? ⟨g1, i, none⟩ = false := blk_frozen hh1 i
   have ne3 : g1 ≠ bx := blk_ne hh1 f0 (by decide)
   have ne4 : bx ≠ g1 := fun e => ne3 e.symm
   have ne6 : rb ≠ g1 := blk_ne f1 hh1 (by decide)
   have LX := Aside0.mk (show ad.block < W.heap.size ∧ adi.block < W.heap.size from ⟨by have := World.block_lt_of_cell? _ _ Y0.out; unfold Addr.add at this; split at this <;> exact this, by have := World.block_lt_of_cell? _ _ X0.out; unfold Addr.add at this; split at this <;> exact this⟩)
   have F0 := Aside0.mk f0
   have F1 := Aside0.mk f1
   have H1 := Aside0.mk hh1
   have HB4 := Aside0.mk hb4
   have HCU := Aside0.mk hcur1
   have L1 := Aside0.mk (show W.heap.size ≤ g1 from hge1)
   have HL1 := Aside0.mk hle1
   clear f0 f1 f2 fb hle0 je0 je1 hR1 hb4 hg4 hat4 hh1 hge1 hmx1 hcur1
   go_upto_region 4 with (fail)
   obtain ⟨w5, hw5⟩ : ∃ w5, w5 = w4.setCell ⟨bx, 0, none⟩ (.slice (some ⟨g1, 0, none⟩) n0 cap1) := ⟨_, rfl⟩
   have ne1 : bx ≠ rb := LB.out.2.2.1
   have ne2 : rb ≠ bx := fun e => ne1 e.symm
   have hf5 : ∀ k, k ≠ bx → w5.heap[k]? = w4.heap[k]? := fun k hk => by rw [hw5]; exact Below.heap_setCell _ _ _ _ hk
   have b5 : w5.heap[bx]? = some (.cells #[.slice (some ⟨g1, 0, none⟩) n0 cap1, .slice (some ad) n1 c1, .slice A2 n2 c2, .slice A3 n3 c3, .bool fa, .int .i64 fu, .slice A6 n6 c6] 31 (0, 0)) := by rw [hw5]; exact blk_put F0.out 0 _ rfl
   have hr5 := (hf5 rb ne2).trans F1.out
   have h5 := (hf5 g1 ne3).trans H1.out
   have hb5 : Below W.heap.size W w5 := by rw [hw5]; exact HB4.out.setCell (p := ⟨bx, 0, none⟩) LB.out.1 _
   rw [← hw5]
   clear hw5 hf5 k0 k1 k2 k3 k4 k5 k6 z0 z1 z2 z3 z4 z5 z6 r0 r1 r2 r3 r4 r5 r6 s0 s1 s2 s3 s4 s5 s6 y0 x0 q0 qz
   obtain ⟨k0, k1, k2, k3, k4, k5, k6⟩ := cells7 b5
   obtain ⟨z0, z1, z2, z3, z4, z5, z6⟩ := froz7 b5
   obtain ⟨r0, r1, r2, r3, r4, r5, r6⟩ := cells7 hr5
   obtain ⟨s0, s1, s2, s3, s4, s5, s6⟩ := froz7 hr5
   have y0 := (hb5.cell (World.block_lt_of_cell? _ _ Y0.out)).trans Y0.out
   have x0 := (hb5.cell (World.block_lt_of_cell? _ _ X0.out)).trans X0.out
   have q5 : ∃ u, w5.cell? ⟨g1, i, none⟩ = some u := ⟨_, by rw [blk_cell h5]; exact HCU.out i _ (List.getElem?_eq_getElem (by have := EQ.out.1; omega))⟩
   obtain ⟨u5, q5⟩ := q5
   have q6 : w5.frozen? ⟨g1, i, none⟩ = false := blk_frozen h5 i
   have q7 : w5.drew.cell? ⟨g1, i, none⟩ = some u5 := q5
   have q8 : w5.drew.frozen? ⟨g1, i, none⟩ = false := q6
   have B5 := Aside0.mk b5
   have R5 := Aside0.mk hr5
   have H5 := Aside0.mk h5
   have HB5 := Aside0.mk hb5
   have wb1 : IntKind.i64.wrap ((b' : Int) + 1 - 1) = (b' : Int) := by rw [show (b' : Int) + 1 - 1 = b' by omega]; exact IntWalk.i64_in _ (by omega)
   have wb2 : IntKind.i64.wrap (((b' + 1 : Nat) : Int) - 1) = (b' : Int) := by rw [show ((b' + 1 : Nat) : Int) - 1 = b' by omega]; exact IntWalk.i64_in _ (by omega)
   have wb0 : IntKind.i64.wrap (b' : Int) = (b' : Int) := IntWalk.i64_in _ (by omega)
   have wb3 : wrap64 (b' : Int) = (b' : Int) := by rw [← i64_w]; exact wb0
   clear b5 hr5 h5 hb5 F0 F1 H1 HB4
   refine start_ (n := 14) (S := fun w' => w'.cell? ⟨bx, 0, none⟩ = some (.slice (some ⟨g1, 0, none⟩) n0 cap1) ∧ w'.cell? ⟨bx, 1, none⟩ = some (.slice (some ad) n1 c1) ∧ w'.cell? (ad.add i) = some (.slice (some adi) ny ci) ∧ w'.cell? (adi.add b') = some (.string x)) (ds := [13]) #[false, false, false, false, false, false, false, false, false, false, false, false, false, false] (by kernel_rfl) rfl rfl ⟨k0, k1, y0, x0⟩ (fun hHeld => ?_)
   refine pure_ (i := 0) (N := some 23) (v := ?_) (a' := ?_) #[true, false, false, false, false, false, false, false, false, false, false, false, false, false] rfl rfl (by kernel_rfl) (fun _ _ _ h => h) (Or.inl ⟨by rfl, ?_⟩) ?_ ?_
   rotate_left
   ·intro w'
    go_simp
    with_reducible rfl
   rotate_left
   ·simp only [Act.put, List.setIfInBounds_toArray, List.set_cons_zero, List.set_cons_succ, i64_w, i32_w]
    rfl
   refine pure_ (i := 2) (N := some 25) (v := ?_) (a' := ?_) #[true, false, true, false, false, false, false, false, false, false, false, false, false, false] rfl rfl (by kernel_rfl) (fun _ _ _ h => h) (Or.inl ⟨by rfl, ?_⟩) ?_ ?_
   rotate_left
   ·intro w'
    go_simp
    with_reducible rfl
   rotate_left
   ·simp only [Act.put, List.setIfInBounds_toArray, List.set_cons_zero, List.set_cons_succ, i64_w, i32_w]
    rfl
   refine pure_ (i := 3) (N := some 26) (v := ?_) (a' := ?_) #[true, false, true, true, false, false, false, false, false, false, false, false, false, false] rfl rfl (by kernel_rfl) (fun _ _ _ h => h) (Or.inl ⟨by rfl, ?_⟩) ?_ ?_
   rotate_left
   ·intro w'
    go_simp
    with_reducible rfl
   rotate_left
   ·simp only [Act.put, List.setIfInBounds_toArray, List.set_cons_zero, List.set_cons_succ, i64_w, i32_w]
    rfl
   refine pure_ (i := 5) (N := some 28) (v := ?_) (a' := ?_) #[true, false, true, true, false, true, false, false, false, false, false, false, false, false] rfl rfl (by kernel_rfl) (fun _ _ _ h => h) (Or.inl ⟨by rfl, ?_⟩) ?_ ?_
   rotate_left
   ·intro w'
    go_simp
    with_reducible rfl
   rotate_left
   ·simp only [Act.put, List.setIfInBounds_toArray, List.set_cons_zero, List.set_cons_succ, i64_w, i32_w]
    rfl
   refine pure_ (i := 8) (N := some 31) (v := ?_) (a' := ?_) #[true, false, true, true, false, true, false, false, true, false, false, false, false, false] rfl rfl (by kernel_rfl) (fun _ _ _ h => h) (Or.inl ⟨by rfl, ?_⟩) ?_ ?_
   rotate_left
   ·intro w'
    go_simp
    with_reducible rfl
   rotate_left
   ·simp only [Act.put, List.setIfInBounds_toArray, List.set_cons_zero, List.set_cons_succ, i64_w, i32_w]
    rfl
   refine pure_ (i := 9) (N := some 32) (v := ?_) (a' := ?_) #[true, false, true, true, false, true, false, false, true, true, false, false, false, false] rfl rfl (by kernel_rfl) (fun _ _ _ h => h) (Or.inl ⟨by rfl, ?_⟩) ?_ ?_
   rotate_left
   ·intro w'
    go_simp
    with_reducible rfl
   rotate_left
   ·simp only [Act.put, List.setIfInBounds_toArray, List.set_cons_zero, List.set_cons_succ, i64_w, i32_w]
    rfl
   refine take_ (i := 1) (N := some 24) (v := ?_) (a' := ?_) #[true, true, true, true, false, true, false, false, true, true, false, false, false, false] rfl rfl (by kernel_rfl) (fun _ _ _ h => h) (Or.inl ⟨by rfl, ?_⟩) hHeld ?_ ?_
   rotate_left
   ·rintro w' ⟨s0, s1, s2, s3⟩
    go_simp
    with_reducible rfl
   rotate_left
   ·simp only [Act.put, List.setIfInBounds_toArray, List.set_cons_zero, List.set_cons_succ, i64_w, i32_w]
    rfl
   refine take_ (i := 4) (N := some 27) (v := ?_) (a' := ?_) #[true, true, true, true, true, true, false, false, true, true, false, false, false, false] rfl rfl (by kernel_rfl) (fun _ _ _ h => h) (Or.inl ⟨by rfl, ?_⟩) hHeld ?_ ?_
   rotate_left
   ·rintro w' ⟨s0, s1, s2, s3⟩
    go_simp
    with_reducible rfl
   rotate_left
   ·simp only [Act.put, List.setIfInBounds_toArray, List.set_cons_zero, List.set_cons_succ, i64_w, i32_w]
    rfl
   refine pure_ (i := 6) (N := some 29) (v := ?_) (a' := ?_) #[true, true, true, true, true, true, true, false, true, true, false, false, false, false] rfl rfl (by kernel_rfl) (fun _ _ _ h => h) (Or.inl ⟨by rfl, ?_⟩) ?_ ?_
   rotate_left
   ·intro w'
    go_simp
    with_reducible rfl
   rotate_left
   ·simp only [Act.put, List.setIfInBounds_toArray, List.set_cons_zero, List.set_cons_succ, i64_w, i32_w]
    rfl
   refine take_ (i := 7) (N := some 30) (v := ?_) (a' := ?_) #[true, true, true, true, true, true, true, true, true, true, false, false, false, false] rfl rfl (by kernel_rfl) (fun _ _ _ h => h) (Or.inl ⟨by rfl, ?_⟩) hHeld ?_ ?_
   rotate_left
   ·rintro w' ⟨s0, s1, s2, s3⟩
    go_simp
    with_reducible rfl
   rotate_left
   ·simp only [Act.put, List.setIfInBounds_toArray, List.set_cons_zero, List.set_cons_succ, i64_w, i32_w]
    rfl
   refine pure_ (i := 10) (N := some 33) (v := ?_) (a' := ?_) #[true, true, true, true, true, true, true, true, true, true, true, false, false, false] rfl rfl (by kernel_rfl) (fun _ _ _ h => h) (Or.inl ⟨by rfl, ?_⟩) ?_ ?_
   rotate_left
   ·intro w'
    go_simp
    with_reducible rfl
   rotate_left
   ·simp only [Act.put, List.setIfInBounds_toArray, List.set_cons_zero, List.set_cons_succ, i64_w, i32_w]
    rfl
   refine take_ (i := 11) (N := some 34) (v := ?_) (a' := ?_) #[true, true, true, true, true, true, true, true, true, true, true, true, false, false] rfl rfl (by kernel_rfl) (fun _ _ _ h => h) (Or.inl ⟨by rfl, ?_⟩) hHeld ?_ ?_
   rotate_left
   ·rintro w' ⟨s0, s1, s2, s3⟩
    go_simp
    with_reducible rfl
   rotate_left
   ·simp only [Act.put, List.setIfInBounds_toArray, List.set_cons_zero, List.set_cons_succ, i64_w, i32_w]
    rfl
   refine pure_ (i := 12) (N := some 35) (v := ?_) (a' := ?_) #[true, true, true, true, true, true, true, true, true, true, true, true, true, false] rfl rfl (by kernel_rfl) (fun _ _ _ h => h) (Or.inl ⟨by rfl, ?_⟩) ?_ ?_
   rotate_left
   ·intro w'
    go_simp
    with_reducible rfl
   rotate_left
   ·simp only [Act.put, List.setIfInBounds_toArray, List.set_cons_zero, List.set_cons_succ, i64_w, i32_w]
    rfl
   refine last_ (i := 13) (N := none) #[true, true, true, true, true, true, true, true, true, true, true, true, true, true] rfl rfl (by kernel_rfl) (by decide) (fun K hK => ?_)
   refine skip_ (w1 := ?_) (by rfl) rfl ?_ ?_
   rotate_left
   ·go_simp
    rfl
   refine hK.out _ _ ?_
   clear hK K
   refine done_ (by kernel_rfl) ?_
   have ne7 : g1 ≠ rb := fun e => ne6 e.symm
   go_wp2_with fail
   obtain ⟨wB, hwB⟩ : ∃ wB, wB = w5.setCell ⟨g1, i, none⟩ (.string x) := ⟨_, rfl⟩
   have hB1 : wB.heap[rb]? = some (.cells #[.slice none 0 0, .slice none 0 0, .slice none 0 0, .slice none 0 0, .bool false, .int .i64 0, .slice none 0 0] 31 (0, 0)) := by rw [hwB]; exact (Below.heap_setCell _ _ _ _ ne6).trans R5.out
   have hBg : wB.heap[g1]? = some (.cells (cur1.setIfInBounds i (.string x)) 9 (0, 0)) := by rw [hwB]; exact blk_put H5.out i _ rfl
   have hbB : Below W.heap.size W wB := by rw [hwB]; exact HB5.out.setCell (p := ⟨g1, i, none⟩) L1.out _
   have hbC := set7_below hbB LB.out.2.1 (.slice (some ⟨g1, 0, none⟩) n0 cap1) (.slice (some ad) n1 c1) (.slice A2 n2 c2) (.slice A3 n3 c3) (.bool fa) (.int .i64 fu) (.slice A6 n6 c6)
   obtain ⟨wS, hwS⟩ : ∃ wS, wS = set7 wB rb (.slice (some ⟨g1, 0, none⟩) n0 cap1) (.slice (some ad) n1 c1) (.slice A2 n2 c2) (.slice A3 n3 c3) (.bool fa) (.int .i64 fu) (.slice A6 n6 c6) := ⟨_, rfl⟩
   have hxS : wS.heap[rb]? = some (.cells #[.slice (some ⟨g1, 0, none⟩) n0 cap1, .slice (some ad) n1 c1, .slice A2 n2 c2, .slice A3 n3 c3, .bool fa, .int .i64 fu, .slice A6 n6 c6] 31 (0, 0)) := by rw [hwS]; exact set7_blk hB1 (.slice (some ⟨g1, 0, none⟩) n0 cap1) (.slice (some ad) n1 c1) (.slice A2 n2 c2) (.slice A3 n3 c3) (.bool fa) (.int .i64 fu) (.slice A6 n6 c6)
   have hbS : Below W.heap.size W wS := by rw [hwS]; exact hbC
   have hg7 : wS.heap[g1]? = some (.cells (cur1.setIfInBounds i (.string x)) 9 (0, 0)) := by rw [hwS]; exact (set7_far wB rb (.slice (some ⟨g1, 0, none⟩) n0 cap1) (.slice (some ad) n1 c1) (.slice A2 n2 c2) (.slice A3 n3 c3) (.bool fa) (.int .i64 fu) (.slice A6 n6 c6) g1 ne7).trans hBg
   obtain ⟨wC, hwC⟩ : ∃ wC, wC = wS.drew := ⟨_, rfl⟩
   have hxC : wC.heap[rb]? = some (.cells #[.slice (some ⟨g1, 0, none⟩) n0 cap1, .slice (some ad) n1 c1, .slice A2 n2 c2, .slice A3 n3 c3, .bool fa, .int .i64 fu, .slice A6 n6 c6] 31 (0, 0)) := by rw [hwC]; exact hxS
   have hbD : Below W.heap.size W wC := by rw [hwC]; exact hbS.drew
   have hgC : wC.heap[g1]? = some (.cells (cur1.setIfInBounds i (.string x)) 9 (0, 0)) := by rw [hwC]; exact hg7
   rw [hwS] at hwC
   unfold set7 at hwC
   rw [← hwB, ← hwC]
   clear hwC hwS hwB hxS hbS hg7 hbC hbB hB1 hBg
   refine bodyPost_ret (results_ct rfl _ _ rb 31 #[.slice (some ⟨g1, 0, none⟩) n0 cap1, .slice (some ad) n1 c1, .slice A2 n2 c2, .slice A3 n3 c3, .bool fa, .int .i64 fu, .slice A6 n6 c6] (0, 0) _ rfl hxC Try.underlying31 rfl (by kernel_rfl)) rfl ?_
   refine ⟨_, rfl, ?_, hbD⟩
   have mv : ∀ {α : Type} {d : Kd α} {e : Nat} {u : Value} {xs : List α}, Kd.V d e W 0 ok u xs → Kd.V d e wC 0 (fun k => ok k ∨ W.heap.size ≤ k) u xs := fun hu => Kd.V_mono (Kd.V_below hu hbD) (fun k hk => Or.inl hk)
   obtain ⟨t0, t1, t2, t3, t4, t5⟩ := EQ.out
   have hV := scal_V (enc := Value.string) (h1 := fun _ => rfl) (cap := cap1) (xs := S.stable.set i x) hgC (by simp; omega) (by have := HL1.out; simp; omega) (set_cur Value.string HCU.out i (by omega) x _ rfl)
   rw [List.length_set, ← t0] at hV
   have hA := HA.out
   rw [← t1, ← t2, ← t3, ← t4] at hA
   have hfin : RefIs wC (fun k => ok k ∨ W.heap.size ≤ k) (.agg #[.slice (some ⟨g1, 0, none⟩) n0 cap1, .slice (some ad) n1 c1, .slice A2 n2 c2, .slice A3 n3 c3, .bool fa, .int .i64 fu, .slice A6 n6 c6]) { S with stable := S.stable.set i x } := ⟨_, _, _, _, _, fl, fu, sv, { hv := by rw [← t5], h0 := Kd.V_mono hV (fun k hk => by rw [hk]; exact Or.inr L1.out), h1 := mv hA.h1, h2 := mv hA.h2, h3 := mv hA.h3, h6 := mv hA.h6, fl5 := hA.fl5, fok := hA.fok, uok := hA.uok }⟩
   exact hfin
end
end Go.Proofs.Ytflajmgichdhhaa.PG
namespace Go.Proofs.Ytflajmgichdhhaa.PG
open Go.RowKit Go.Proofs.YtflajmgichdhhaaW.PrintWords Go.Proofs.YtflajmgichdhhaaW.PrintLast Go.Proofs.YtflajmgichdhhaaW.PrintMore
set_option linter.unusedVariables false
set_option linter.unusedSimpArgs false
theorem endF_none (p : S99 → Bool) (l : List Int) : ∀ (ws : List S99) (st : Nat × DevS), (∀ w ∈ ws, p w = false) → endF p l ws st = st
 | [], _, _ => rfl
 | w :: ws, st, h => by
  show endF p l ws (endStep p l st w) = st
  have h1 : endStep p l st w = st := by unfold endStep; rw [if_neg (by rw [h w (by simp)]; simp)]
  rw [h1]
  exact endF_none p l ws st (fun a ha => h a (by simp [ha]))
theorem finish_none {S : DevS} (p : S99 → Bool) (l : List Int) (h : ∀ w ∈ S.pend, p w = false) : finishS p l S = S := by
 unfold finishS
 rw [endF_none p l S.pend (0, S) h, List.filter_eq_self.2 (fun a ha => by rw [h a ha]; rfl)]
section
variable {W : World} {ok : Nat → Prop} {v : Value} {S : DevS}
set_option maxRecDepth 100000 in
set_option maxHeartbeats 4000000 in
theorem refdo_calls {k : Nat} (hR : RefIs W ok v S) (hG : Good k S) (hk : k ≤ 1000000) (o : S37) (hw : Opens.OpWf o) (A : Option Addr) (c : Nat) (hC : Kd.C (Kd.int .i64) W A o.f6.length o.f6) (hlc : o.f6.length ≤ c) (hlm : o.f6.length ≤ 1000000) :
  Calls Try.prog 13 #[v, .agg (opCells o A c)] W fun e W' => RPost2 ok (doS o S).1 (doS o S).2 W e W' := by
 have HG := Aside0.mk hG
 have HL := Aside0.mk hC
 have hk0 := hw.kind.1
 have hk1 := hw.kind.2
 clear hG hC
 obtain ⟨v0, v1, v2, v3, v6, fl, fu, sv, hA⟩ := id hR
 obtain rfl := hA.hv
 obtain ⟨A0, c0, e0, hl0, hF0⟩ := hA.h0
 obtain ⟨A1, c1, e1, hl1, hF1⟩ := hA.h1
 obtain ⟨A2, c2, e2, hl2, hF2⟩ := hA.h2
 obtain ⟨A3, c3, e3, hl3, hF3⟩ := hA.h3
 obtain ⟨A6, c6, e6, hl6, hF6⟩ := hA.h6
 subst e0 e1 e2 e3 e6
 have HR := Aside0.mk hR
 have HA := Aside0.mk hA
 have HF0 := Aside0.mk hF0
 have HF1 := Aside0.mk hF1
 have HF2 := Aside0.mk hF2
 have HF3 := Aside0.mk hF3
 obtain ⟨n0, hn0⟩ : ∃ n0, n0 = S.stable.length := ⟨_, rfl⟩
 obtain ⟨n1, hn1⟩ : ∃ n1, n1 = S.old.length := ⟨_, rfl⟩
 obtain ⟨n2, hn2⟩ : ∃ n2, n2 = S.pend.length := ⟨_, rfl⟩
 obtain ⟨n3, hn3⟩ : ∃ n3, n3 = fl.length := ⟨_, rfl⟩
 obtain ⟨n6, hn6⟩ : ∃ n6, n6 = sv.length := ⟨_, rfl⟩
 obtain ⟨fa, hfa⟩ : ∃ fa, fa = S.failed := ⟨_, rfl⟩
 have EQ := Aside0.mk (show n0 = S.stable.length ∧ n1 = S.old.length ∧ n2 = S.pend.length ∧ n3 = fl.length ∧ n6 = sv.length ∧ fa = S.failed from ⟨hn0, hn1, hn2, hn3, hn6, hfa⟩)
 rw [← hn0, ← hn1, ← hn2, ← hn3, ← hn6, ← hfa]
 rw [← hn0, ← hn1, ← hn2, ← hn3, ← hn6, ← hfa] at HR
 clear hR hA hF0 hF1 hF2 hF3 hF6 hl0 hl1 hl2 hl3 hl6 hn0 hn1 hn2 hn3 hn6 hfa
 unfold RPost2 opCells
 obtain ⟨r, S2, hrs⟩ : ∃ r S2, doS o S = (r, S2) := ⟨_, _, rfl⟩
 rw [hrs]
 obtain ⟨kd, hkd⟩ : ∃ kd, kd = o.f0 % 8 := ⟨_, rfl⟩
 have hkb : 0 ≤ kd ∧ kd < 8 := by omega
 unfold doS at hrs
 rw [← hkd] at hrs
 have HKD := Aside0.mk hkd.symm
 clear hkd
 by_cases c_0 : kd = 0
 ·have dd0 : (o.f0 % 8 == 0) = true := by rw [HKD.out, c_0]; rfl
  rw [if_pos c_0] at hrs
  have HC := Aside0.mk (fun (w : World) (hb : Below W.heap.size W w) => show Calls Try.prog 28 #[.agg #[.slice A0 n0 c0, .slice A1 n1 c1, .slice A2 n2 c2, .slice A3 n3 c3, .bool fa, .int .i64 fu, .slice A6 n6 c6], .agg #[.int .i64 o.f1.f0, .int .i64 o.f1.f1], .int .i64 o.f2, .string o.f3] w fun e w' => RPost2 (fun k => ok k ∧ k < W.heap.size) r S2 w e w' from by
   have h := dowrite_ref ((HR.out.mono (ok' := fun k => ok k ∧ k < W.heap.size) (fun k hk hlt => ⟨hk, hlt⟩)).below hb) HG.out hk o.f1.f0 o.f1.f1 o.f2 o.f3
   rw [hrs] at h
   exact h)
  clear hkb hrs c_0
  go_enter Try.func13, Try.ntmps13
  go_wp2_with fail
  obtain ⟨w1, hw1⟩ : ∃ w1, w1 = ((W.alloc (.cells #[.slice A0 n0 c0, .slice A1 n1 c1, .slice A2 n2 c2, .slice A3 n3 c3, .bool fa, .int .i64 fu, .slice A6 n6 c6] 31)).alloc (.cells #[.int .u8 o.f0, .int .i64 o.f1.f0, .int .i64 o.f1.f1, .int .i64 o.f2, .string o.f3, .int .i64 o.f4, .int .u8 o.f5, .slice A o.f6.length c] 37)).alloc (.cells #[.slice none 0 0, .slice none 0 0, .slice none 0 0, .slice none 0 0, .bool false, .int .i64 0, .slice none 0 0] 31) := ⟨_, rfl⟩
  obtain ⟨g0, gw, g1, hb1⟩ := three W (.cells #[.slice A0 n0 c0, .slice A1 n1 c1, .slice A2 n2 c2, .slice A3 n3 c3, .bool fa, .int .i64 fu, .slice A6 n6 c6] 31) (.cells #[.int .u8 o.f0, .int .i64 o.f1.f0, .int .i64 o.f1.f1, .int .i64 o.f2, .string o.f3, .int .i64 o.f4, .int .u8 o.f5, .slice A o.f6.length c] 37) (.cells #[.slice none 0 0, .slice none 0 0, .slice none 0 0, .slice none 0 0, .bool false, .int .i64 0, .slice none 0 0] 31)
  rw [← hw1] at g0 gw g1 hb1 ⊢
  obtain ⟨rb, hrb⟩ : ∃ rb, rb = W.heap.size + 1 + 1 := ⟨_, rfl⟩
  rw [← hrb] at g1 ⊢
  have hs1 : w1.heap.size = W.heap.size + 1 + 1 + 1 := by rw [hw1]; simp
  have LB := Aside0.mk (show W.heap.size ≤ rb ∧ rb < w1.heap.size from ⟨by omega, by omega⟩)
  have G1 := Aside0.mk g1
  have HB1 := Aside0.mk hb1
  clear hw1 g0 gw g1 hb1 hrb hs1
  refine (HC.out w1 HB1.out).mono ?_
  rintro e w2 ⟨v4, rfl, hR2, hb⟩
  obtain ⟨E0, E1, E2, E3, E6, d0_, d1_, d2_, d3_, d6_, gl, gu, gs, hRC⟩ := hR2.open_
  obtain rfl := hRC.hv
  obtain ⟨m0, hm0⟩ : ∃ m, m = S2.stable.length := ⟨_, rfl⟩
  obtain ⟨m1, hm1⟩ : ∃ m, m = S2.old.length := ⟨_, rfl⟩
  obtain ⟨m2, hm2⟩ : ∃ m, m = S2.pend.length := ⟨_, rfl⟩
  obtain ⟨m3, hm3⟩ : ∃ m, m = gl.length := ⟨_, rfl⟩
  obtain ⟨m6, hm6⟩ : ∃ m, m = gs.length := ⟨_, rfl⟩
  obtain ⟨ma, hma⟩ : ∃ m, m = S2.failed := ⟨_, rfl⟩
  rw [← hm0, ← hm1, ← hm2, ← hm3, ← hm6, ← hma]
  rw [← hm0, ← hm1, ← hm2, ← hm3, ← hm6, ← hma] at hR2
  have g1 := blk_below G1.out hb
  obtain ⟨r0, r1, r2, r3, r4, r5, r6⟩ := cells7 g1
  obtain ⟨s0, s1, s2, s3, s4, s5, s6⟩ := froz7 g1
  have HR2 := Aside0.mk hR2
  have G2 := Aside0.mk g1
  have HB2 := Aside0.mk (HB1.out.trans (hb.mono HB1.out.size))
  clear hRC hm0 hm1 hm2 hm3 hm6 hma hR2 g1 hb HC
  go_wp2_with fail
  have hbC := set7_below HB2.out LB.out.1 (.slice E0 m0 d0_) (.slice E1 m1 d1_) (.slice E2 m2 d2_) (.slice E3 m3 d3_) (.bool ma) (.int .i64 gu) (.slice E6 m6 d6_)
  refine bodyPost_ret (results_ct rfl _ _ rb 31 #[.slice E0 m0 d0_, .slice E1 m1 d1_, .slice E2 m2 d2_, .slice E3 m3 d3_, .bool ma, .int .i64 gu, .slice E6 m6 d6_] (0, 0) _ rfl (set7_blk G2.out (.slice E0 m0 d0_) (.slice E1 m1 d1_) (.slice E2 m2 d2_) (.slice E3 m3 d3_) (.bool ma) (.int .i64 gu) (.slice E6 m6 d6_)) Try.underlying31 rfl (by kernel_rfl)) rfl ?_
  refine ⟨_, rfl, ?_, hbC⟩
  exact (HR2.out.step (fun k hk _ => set7_far w2 rb (.slice E0 m0 d0_) (.slice E1 m1 d1_) (.slice E2 m2 d2_) (.slice E3 m3 d3_) (.bool ma) (.int .i64 gu) (.slice E6 m6 d6_) k (fun e => by have l1 := LB.out.1; have l2 := LB.out.2; rcases hk with hk | hk <;> omega))).mono (fun k hk _ => hk.elim (fun z => Or.inl z.1) (fun z => Or.inr (by have := HB1.out.size; omega)))
 ·have dd0 : (o.f0 % 8 == 0) = false := beq_eq_false_iff_ne.2 (by rw [HKD.out]; exact c_0)
  by_cases c_1 : kd = 1
  ·have dd1 : (o.f0 % 8 == 1) = true := by rw [HKD.out, c_1]; rfl
   rw [if_neg c_0] at hrs
   rw [if_pos c_1] at hrs
   have HC := Aside0.mk (fun (w : World) (hb : Below W.heap.size W w) => show Calls Try.prog 29 #[.agg #[.slice A0 n0 c0, .slice A1 n1 c1, .slice A2 n2 c2, .slice A3 n3 c3, .bool fa, .int .i64 fu, .slice A6 n6 c6], .agg #[.int .i64 o.f1.f0, .int .i64 o.f1.f1]] w fun e w' => RPost2 (fun k => ok k ∧ k < W.heap.size) r S2 w e w' from by
    have h := dosync_ref ((HR.out.mono (ok' := fun k => ok k ∧ k < W.heap.size) (fun k hk hlt => ⟨hk, hlt⟩)).below hb) HG.out hk o.f1.f0 o.f1.f1
    rw [hrs] at h
    exact h)
   clear hkb hrs c_0 c_1
   go_enter Try.func13, Try.ntmps13
   go_wp2_with fail
   obtain ⟨w1, hw1⟩ : ∃ w1, w1 = ((W.alloc (.cells #[.slice A0 n0 c0, .slice A1 n1 c1, .slice A2 n2 c2, .slice A3 n3 c3, .bool fa, .int .i64 fu, .slice A6 n6 c6] 31)).alloc (.cells #[.int .u8 o.f0, .int .i64 o.f1.f0, .int .i64 o.f1.f1, .int .i64 o.f2, .string o.f3, .int .i64 o.f4, .int .u8 o.f5, .slice A o.f6.length c] 37)).alloc (.cells #[.slice none 0 0, .slice none 0 0, .slice none 0 0, .slice none 0 0, .bool false, .int .i64 0, .slice none 0 0] 31) := ⟨_, rfl⟩
   obtain ⟨g0, gw, g1, hb1⟩ := three W (.cells #[.slice A0 n0 c0, .slice A1 n1 c1, .slice A2 n2 c2, .slice A3 n3 c3, .bool fa, .int .i64 fu, .slice A6 n6 c6] 31) (.cells #[.int .u8 o.f0, .int .i64 o.f1.f0, .int .i64 o.f1.f1, .int .i64 o.f2, .string o.f3, .int .i64 o.f4, .int .u8 o.f5, .slice A o.f6.length c] 37) (.cells #[.slice none 0 0, .slice none 0 0, .slice none 0 0, .slice none 0 0, .bool false, .int .i64 0, .slice none 0 0] 31)
   rw [← hw1] at g0 gw g1 hb1 ⊢
   obtain ⟨rb, hrb⟩ : ∃ rb, rb = W.heap.size + 1 + 1 := ⟨_, rfl⟩
   rw [← hrb] at g1 ⊢
   have hs1 : w1.heap.size = W.heap.size + 1 + 1 + 1 := by rw [hw1]; simp
   have LB := Aside0.mk (show W.heap.size ≤ rb ∧ rb < w1.heap.size from ⟨by omega, by omega⟩)
   have G1 := Aside0.mk g1
   have HB1 := Aside0.mk hb1
   clear hw1 g0 gw g1 hb1 hrb hs1
   refine (HC.out w1 HB1.out).mono ?_
   rintro e w2 ⟨v4, rfl, hR2, hb⟩
   obtain ⟨E0, E1, E2, E3, E6, d0_, d1_, d2_, d3_, d6_, gl, gu, gs, hRC⟩ := hR2.open_
   obtain rfl := hRC.hv
   obtain ⟨m0, hm0⟩ : ∃ m, m = S2.stable.length := ⟨_, rfl⟩
   obtain ⟨m1, hm1⟩ : ∃ m, m = S2.old.length := ⟨_, rfl⟩
   obtain ⟨m2, hm2⟩ : ∃ m, m = S2.pend.length := ⟨_, rfl⟩
   obtain ⟨m3, hm3⟩ : ∃ m, m = gl.length := ⟨_, rfl⟩
   obtain ⟨m6, hm6⟩ : ∃ m, m = gs.length := ⟨_, rfl⟩
   obtain ⟨ma, hma⟩ : ∃ m, m = S2.failed := ⟨_, rfl⟩
   rw [← hm0, ← hm1, ← hm2, ← hm3, ← hm6, ← hma]
   rw [← hm0, ← hm1, ← hm2, ← hm3, ← hm6, ← hma] at hR2
   have g1 := blk_below G1.out hb
   obtain ⟨r0, r1, r2, r3, r4, r5, r6⟩ := cells7 g1
   obtain ⟨s0, s1, s2, s3, s4, s5, s6⟩ := froz7 g1
   have HR2 := Aside0.mk hR2
   have G2 := Aside0.mk g1
   have HB2 := Aside0.mk (HB1.out.trans (hb.mono HB1.out.size))
   clear hRC hm0 hm1 hm2 hm3 hm6 hma hR2 g1 hb HC
   go_wp2_with fail
   have hbC := set7_below HB2.out LB.out.1 (.slice E0 m0 d0_) (.slice E1 m1 d1_) (.slice E2 m2 d2_) (.slice E3 m3 d3_) (.bool ma) (.int .i64 gu) (.slice E6 m6 d6_)
   refine bodyPost_ret (results_ct rfl _ _ rb 31 #[.slice E0 m0 d0_, .slice E1 m1 d1_, .slice E2 m2 d2_, .slice E3 m3 d3_, .bool ma, .int .i64 gu, .slice E6 m6 d6_] (0, 0) _ rfl (set7_blk G2.out (.slice E0 m0 d0_) (.slice E1 m1 d1_) (.slice E2 m2 d2_) (.slice E3 m3 d3_) (.bool ma) (.int .i64 gu) (.slice E6 m6 d6_)) Try.underlying31 rfl (by kernel_rfl)) rfl ?_
   refine ⟨_, rfl, ?_, hbC⟩
   exact (HR2.out.step (fun k hk _ => set7_far w2 rb (.slice E0 m0 d0_) (.slice E1 m1 d1_) (.slice E2 m2 d2_) (.slice E3 m3 d3_) (.bool ma) (.int .i64 gu) (.slice E6 m6 d6_) k (fun e => by have l1 := LB.out.1; have l2 := LB.out.2; rcases hk with hk | hk <;> omega))).mono (fun k hk _ => hk.elim (fun z => Or.inl z.1) (fun z => Or.inr (by have := HB1.out.size; omega)))
  ·have dd1 : (o.f0 % 8 == 1) = false := beq_eq_false_iff_ne.2 (by rw [HKD.out]; exact c_1)
   by_cases c_2 : kd = 2
   ·have dd2 : (o.f0 % 8 == 2) = true := by rw [HKD.out, c_2]; rfl
    rw [if_neg c_0] at hrs
    rw [if_neg c_1] at hrs
    rw [if_pos c_2] at hrs
    by_cases hsy : o.f1.f0 < 1
    ·have hn := finish_none (S := S) (isOf o.f1.f0) o.f6 (fun w hw => by have := (HG.out.fine.pend w hw).1; unfold isOf; exact beq_eq_false_iff_ne.2 (by omega))
     rw [hn] at hrs
     obtain ⟨hr0, hS2⟩ := Prod.mk.inj hrs
     subst hr0
     subst hS2
     have hd1 : decide (o.f1.f0 < 1) = true := decide_eq_true hsy
     clear hkb hrs hn hsy c_0 c_1 c_2
     go_enter Try.func13, Try.ntmps13
     go_wp2_with fail
     obtain ⟨g0, gw, g1, hb1⟩ := three W (.cells #[.slice A0 n0 c0, .slice A1 n1 c1, .slice A2 n2 c2, .slice A3 n3 c3, .bool fa, .int .i64 fu, .slice A6 n6 c6] 31) (.cells #[.int .u8 o.f0, .int .i64 o.f1.f0, .int .i64 o.f1.f1, .int .i64 o.f2, .string o.f3, .int .i64 o.f4, .int .u8 o.f5, .slice A o.f6.length c] 37) (.cells #[.slice A0 n0 c0, .slice A1 n1 c1, .slice A2 n2 c2, .slice A3 n3 c3, .bool fa, .int .i64 fu, .slice A6 n6 c6] 31)
     refine bodyPost_ret (results_ct rfl _ _ (W.heap.size + 1 + 1) 31 #[.slice A0 n0 c0, .slice A1 n1 c1, .slice A2 n2 c2, .slice A3 n3 c3, .bool fa, .int .i64 fu, .slice A6 n6 c6] (0, 0) _ rfl g1 Try.underlying31 rfl (by kernel_rfl)) rfl ?_
     refine ⟨_, rfl, ?_, hb1⟩
     exact (HR.out.below hb1).mono (fun k hk _ => Or.inl hk)
    ·have hd1 : decide (o.f1.f0 < 1) = false := decide_eq_false hsy
     obtain ⟨hr0, hS2⟩ := Prod.mk.inj hrs
     subst hr0
     have HC := Aside0.mk (fun (w : World) (hb : Below W.heap.size W w) => show Calls Try.prog 30 #[.agg #[.slice A0 n0 c0, .slice A1 n1 c1, .slice A2 n2 c2, .slice A3 n3 c3, .bool fa, .int .i64 fu, .slice A6 n6 c6], .int .i64 o.f1.f0, .slice A o.f6.length c, .bool false] w fun e w' => RChPost (fun k => ok k ∧ k < W.heap.size) S2 w e w' from by
      have h := end_ref ((HR.out.mono (ok' := fun k => ok k ∧ k < W.heap.size) (fun k hk hlt => ⟨hk, hlt⟩)).below hb) HG.out.fine hk (isOf o.f1.f0) o.f1.f0 (fun w => by have h2 : decide (o.f1.f0 = 0) = false := decide_eq_false (by omega); rw [h2, Bool.false_or]; rfl) A c o.f6 o.f6 (Kd.C_below HL.out hb) hlc (Nat.le_trans hlm (by decide)) false (fun z => by cases z) (fun k _ => rfl)
      rw [hS2] at h
      exact h)
     clear hkb hrs c_0 c_1 c_2 hS2
     clear hsy
     go_enter Try.func13, Try.ntmps13
     go_wp2_with fail
     obtain ⟨w1, hw1⟩ : ∃ w1, w1 = ((W.alloc (.cells #[.slice A0 n0 c0, .slice A1 n1 c1, .slice A2 n2 c2, .slice A3 n3 c3, .bool fa, .int .i64 fu, .slice A6 n6 c6] 31)).alloc (.cells #[.int .u8 o.f0, .int .i64 o.f1.f0, .int .i64 o.f1.f1, .int .i64 o.f2, .string o.f3, .int .i64 o.f4, .int .u8 o.f5, .slice A o.f6.length c] 37)).alloc (.cells #[.slice none 0 0, .slice none 0 0, .slice none 0 0, .slice none 0 0, .bool false, .int .i64 0, .slice none 0 0] 31) := ⟨_, rfl⟩
     obtain ⟨g0, gw, g1, hb1⟩ := three W (.cells #[.slice A0 n0 c0, .slice A1 n1 c1, .slice A2 n2 c2, .slice A3 n3 c3, .bool fa, .int .i64 fu, .slice A6 n6 c6] 31) (.cells #[.int .u8 o.f0, .int .i64 o.f1.f0, .int .i64 o.f1.f1, .int .i64 o.f2, .string o.f3, .int .i64 o.f4, .int .u8 o.f5, .slice A o.f6.length c] 37) (.cells #[.slice none 0 0, .slice none 0 0, .slice none 0 0, .slice none 0 0, .bool false, .int .i64 0, .slice none 0 0] 31)
     rw [← hw1] at g0 gw g1 hb1 ⊢
     obtain ⟨rb, hrb⟩ : ∃ rb, rb = W.heap.size + 1 + 1 := ⟨_, rfl⟩
     rw [← hrb] at g1 ⊢
     have hs1 : w1.heap.size = W.heap.size + 1 + 1 + 1 := by rw [hw1]; simp
     have LB := Aside0.mk (show W.heap.size ≤ rb ∧ rb < w1.heap.size from ⟨by omega, by omega⟩)
     have G1 := Aside0.mk g1
     have HB1 := Aside0.mk hb1
     clear hw1 g0 gw g1 hb1 hrb hs1
     refine (HC.out w1 HB1.out).mono ?_
     rintro e w2 ⟨v4, rfl, hR2, hb⟩
     obtain ⟨E0, E1, E2, E3, E6, d0_, d1_, d2_, d3_, d6_, gl, gu, gs, hRC⟩ := hR2.open_
     obtain rfl := hRC.hv
     obtain ⟨m0, hm0⟩ : ∃ m, m = S2.stable.length := ⟨_, rfl⟩
     obtain ⟨m1, hm1⟩ : ∃ m, m = S2.old.length := ⟨_, rfl⟩
     obtain ⟨m2, hm2⟩ : ∃ m, m = S2.pend.length := ⟨_, rfl⟩
     obtain ⟨m3, hm3⟩ : ∃ m, m = gl.length := ⟨_, rfl⟩
     obtain ⟨m6, hm6⟩ : ∃ m, m = gs.length := ⟨_, rfl⟩
     obtain ⟨ma, hma⟩ : ∃ m, m = S2.failed := ⟨_, rfl⟩
     rw [← hm0, ← hm1, ← hm2, ← hm3, ← hm6, ← hma]
     rw [← hm0, ← hm1, ← hm2, ← hm3, ← hm6, ← hma] at hR2
     have g1 := blk_below G1.out hb
     obtain ⟨r0, r1, r2, r3, r4, r5, r6⟩ := cells7 g1
     obtain ⟨s0, s1, s2, s3, s4, s5, s6⟩ := froz7 g1
     have HR2 := Aside0.mk hR2
     have G2 := Aside0.mk g1
     have HB2 := Aside0.mk (HB1.out.trans (hb.mono HB1.out.size))
     clear hRC hm0 hm1 hm2 hm3 hm6 hma hR2 g1 hb HC
     go_wp2_with fail
     have hbC := set7_below HB2.out LB.out.1 (.slice E0 m0 d0_) (.slice E1 m1 d1_) (.slice E2 m2 d2_) (.slice E3 m3 d3_) (.bool ma) (.int .i64 gu) (.slice E6 m6 d6_)
     refine bodyPost_ret (results_ct rfl _ _ rb 31 #[.slice E0 m0 d0_, .slice E1 m1 d1_, .slice E2 m2 d2_, .slice E3 m3 d3_, .bool ma, .int .i64 gu, .slice E6 m6 d6_] (0, 0) _ rfl (set7_blk G2.out (.slice E0 m0 d0_) (.slice E1 m1 d1_) (.slice E2 m2 d2_) (.slice E3 m3 d3_) (.bool ma) (.int .i64 gu) (.slice E6 m6 d6_)) Try.underlying31 rfl (by kernel_rfl)) rfl ?_
     refine ⟨_, rfl, ?_, hbC⟩
     exact (HR2.out.step (fun k hk _ => set7_far w2 rb (.slice E0 m0 d0_) (.slice E1 m1 d1_) (.slice E2 m2 d2_) (.slice E3 m3 d3_) (.bool ma) (.int .i64 gu) (.slice E6 m6 d6_) k (fun e => by have l1 := LB.out.1; have l2 := LB.out.2; rcases hk with hk | hk <;> omega))).mono (fun k hk _ => hk.elim (fun z => Or.inl z.1) (fun z => Or.inr (by have := HB1.out.size; omega)))
   ·have dd2 : (o.f0 % 8 == 2) = false := beq_eq_false_iff_ne.2 (by rw [HKD.out]; exact c_2)
    by_cases c_3 : kd = 3
    ·have dd3 : (o.f0 % 8 == 3) = true := by rw [HKD.out, c_3]; rfl
     rw [if_neg c_0] at hrs
     rw [if_neg c_1] at hrs
     rw [if_neg c_2] at hrs
     rw [if_pos c_3] at hrs
     obtain ⟨hr0, hS2⟩ := Prod.mk.inj hrs
     subst hr0
     have HC := Aside0.mk (fun (w : World) (hb : Below W.heap.size W w) => show Calls Try.prog 31 #[.agg #[.slice A0 n0 c0, .slice A1 n1 c1, .slice A2 n2 c2, .slice A3 n3 c3, .bool fa, .int .i64 fu, .slice A6 n6 c6], .int .i64 o.f1.f0, .int .i64 o.f1.f1] w fun e w' => RChPost (fun k => ok k ∧ k < W.heap.size) S2 w e w' from by
      have h := fence_ref ((HR.out.mono (ok' := fun k => ok k ∧ k < W.heap.size) (fun k hk hlt => ⟨hk, hlt⟩)).below hb) o.f1.f0 o.f1.f1
      rw [hS2] at h
      exact h)
     clear hkb hrs c_0 c_1 c_2 c_3 hS2
     go_enter Try.func13, Try.ntmps13
     go_wp2_with fail
     obtain ⟨w1, hw1⟩ : ∃ w1, w1 = ((W.alloc (.cells #[.slice A0 n0 c0, .slice A1 n1 c1, .slice A2 n2 c2, .slice A3 n3 c3, .bool fa, .int .i64 fu, .slice A6 n6 c6] 31)).alloc (.cells #[.int .u8 o.f0, .int .i64 o.f1.f0, .int .i64 o.f1.f1, .int .i64 o.f2, .string o.f3, .int .i64 o.f4, .int .u8 o.f5, .slice A o.f6.length c] 37)).alloc (.cells #[.slice none 0 0, .slice none 0 0, .slice none 0 0, .slice none 0 0, .bool false, .int .i64 0, .slice none 0 0] 31) := ⟨_, rfl⟩
     obtain ⟨g0, gw, g1, hb1⟩ := three W (.cells #[.slice A0 n0 c0, .slice A1 n1 c1, .slice A2 n2 c2, .slice A3 n3 c3, .bool fa, .int .i64 fu, .slice A6 n6 c6] 31) (.cells #[.int .u8 o.f0, .int .i64 o.f1.f0, .int .i64 o.f1.f1, .int .i64 o.f2, .string o.f3, .int .i64 o.f4, .int .u8 o.f5, .slice A o.f6.length c] 37) (.cells #[.slice none 0 0, .slice none 0 0, .slice none 0 0, .slice none 0 0, .bool false, .int .i64 0, .slice none 0 0] 31)
     rw [← hw1] at g0 gw g1 hb1 ⊢
     obtain ⟨rb, hrb⟩ : ∃ rb, rb = W.heap.size + 1 + 1 := ⟨_, rfl⟩
     rw [← hrb] at g1 ⊢
     have hs1 : w1.heap.size = W.heap.size + 1 + 1 + 1 := by rw [hw1]; simp
     have LB := Aside0.mk (show W.heap.size ≤ rb ∧ rb < w1.heap.size from ⟨by omega, by omega⟩)
     have G1 := Aside0.mk g1
     have HB1 := Aside0.mk hb1
     clear hw1 g0 gw g1 hb1 hrb hs1
     refine (HC.out w1 HB1.out).mono ?_
     rintro e w2 ⟨v4, rfl, hR2, hb⟩
     obtain ⟨E0, E1, E2, E3, E6, d0_, d1_, d2_, d3_, d6_, gl, gu, gs, hRC⟩ := hR2.open_
     obtain rfl := hRC.hv
     obtain ⟨m0, hm0⟩ : ∃ m, m = S2.stable.length := ⟨_, rfl⟩
     obtain ⟨m1, hm1⟩ : ∃ m, m = S2.old.length := ⟨_, rfl⟩
     obtain ⟨m2, hm2⟩ : ∃ m, m = S2.pend.length := ⟨_, rfl⟩
     obtain ⟨m3, hm3⟩ : ∃ m, m = gl.length := ⟨_, rfl⟩
     obtain ⟨m6, hm6⟩ : ∃ m, m = gs.length := ⟨_, rfl⟩
     obtain ⟨ma, hma⟩ : ∃ m, m = S2.failed := ⟨_, rfl⟩
     rw [← hm0, ← hm1, ← hm2, ← hm3, ← hm6, ← hma]
     rw [← hm0, ← hm1, ← hm2, ← hm3, ← hm6, ← hma] at hR2
     have g1 := blk_below G1.out hb
     obtain ⟨r0, r1, r2, r3, r4, r5, r6⟩ := cells7 g1
     obtain ⟨s0, s1, s2, s3, s4, s5, s6⟩ := froz7 g1
     have HR2 := Aside0.mk hR2
     have G2 := Aside0.mk g1
     have HB2 := Aside0.mk (HB1.out.trans (hb.mono HB1.out.size))
     clear hRC hm0 hm1 hm2 hm3 hm6 hma hR2 g1 hb HC
     go_wp2_with fail
     have hbC := set7_below HB2.out LB.out.1 (.slice E0 m0 d0_) (.slice E1 m1 d1_) (.slice E2 m2 d2_) (.slice E3 m3 d3_) (.bool ma) (.int .i64 gu) (.slice E6 m6 d6_)
     refine bodyPost_ret (results_ct rfl _ _ rb 31 #[.slice E0 m0 d0_, .slice E1 m1 d1_, .slice E2 m2 d2_, .slice E3 m3 d3_, .bool ma, .int .i64 gu, .slice E6 m6 d6_] (0, 0) _ rfl (set7_blk G2.out (.slice E0 m0 d0_) (.slice E1 m1 d1_) (.slice E2 m2 d2_) (.slice E3 m3 d3_) (.bool ma) (.int .i64 gu) (.slice E6 m6 d6_)) Try.underlying31 rfl (by kernel_rfl)) rfl ?_
     refine ⟨_, rfl, ?_, hbC⟩
     exact (HR2.out.step (fun k hk _ => set7_far w2 rb (.slice E0 m0 d0_) (.slice E1 m1 d1_) (.slice E2 m2 d2_) (.slice E3 m3 d3_) (.bool ma) (.int .i64 gu) (.slice E6 m6 d6_) k (fun e => by have l1 := LB.out.1; have l2 := LB.out.2; rcases hk with hk | hk <;> omega))).mono (fun k hk _ => hk.elim (fun z => Or.inl z.1) (fun z => Or.inr (by have := HB1.out.size; omega)))
    ·have dd3 : (o.f0 % 8 == 3) = false := beq_eq_false_iff_ne.2 (by rw [HKD.out]; exact c_3)
     by_cases c_4 : kd = 4
     ·have dd4 : (o.f0 % 8 == 4) = true := by rw [HKD.out, c_4]; rfl
      rw [if_neg c_0] at hrs
      rw [if_neg c_1] at hrs
      rw [if_neg c_2] at hrs
      rw [if_neg c_3] at hrs
      rw [if_pos c_4] at hrs
      obtain ⟨hr0, hS2⟩ := Prod.mk.inj hrs
      subst hr0
      have HC := Aside0.mk (fun (w : World) (hb : Below W.heap.size W w) => show Calls Try.prog 32 #[.agg #[.slice A0 n0 c0, .slice A1 n1 c1, .slice A2 n2 c2, .slice A3 n3 c3, .bool fa, .int .i64 fu, .slice A6 n6 c6], .int .i64 o.f4, .slice A o.f6.length c] w fun e w' => RChPost (fun k => ok k ∧ k < W.heap.size) S2 w e w' from by
       have h := failafter_ref ((HR.out.mono (ok' := fun k => ok k ∧ k < W.heap.size) (fun k hk hlt => ⟨hk, hlt⟩)).below hb) o.f4 A c o.f6 (Kd.C_below HL.out hb) hlm
       rw [hS2] at h
       exact h)
      clear hkb hrs c_0 c_1 c_2 c_3 c_4 hS2
      go_enter Try.func13, Try.ntmps13
      go_wp2_with fail
      obtain ⟨w1, hw1⟩ : ∃ w1, w1 = ((W.alloc (.cells #[.slice A0 n0 c0, .slice A1 n1 c1, .slice A2 n2 c2, .slice A3 n3 c3, .bool fa, .int .i64 fu, .slice A6 n6 c6] 31)).alloc (.cells #[.int .u8 o.f0, .int .i64 o.f1.f0, .int .i64 o.f1.f1, .int .i64 o.f2, .string o.f3, .int .i64 o.f4, .int .u8 o.f5, .slice A o.f6.length c] 37)).alloc (.cells #[.slice none 0 0, .slice none 0 0, .slice none 0 0, .slice none 0 0, .bool false, .int .i64 0, .slice none 0 0] 31) := ⟨_, rfl⟩
      obtain ⟨g0, gw, g1, hb1⟩ := three W (.cells #[.slice A0 n0 c0, .slice A1 n1 c1, .slice A2 n2 c2, .slice A3 n3 c3, .bool fa, .int .i64 fu, .slice A6 n6 c6] 31) (.cells #[.int .u8 o.f0, .int .i64 o.f1.f0, .int .i64 o.f1.f1, .int .i64 o.f2, .string o.f3, .int .i64 o.f4, .int .u8 o.f5, .slice A o.f6.length c] 37) (.cells #[.slice none 0 0, .slice none 0 0, .slice none 0 0, .slice none 0 0, .bool false, .int .i64 0, .slice none 0 0] 31)
      rw [← hw1] at g0 gw g1 hb1 ⊢
      obtain ⟨rb, hrb⟩ : ∃ rb, rb = W.heap.size + 1 + 1 := ⟨_, rfl⟩
      rw [← hrb] at g1 ⊢
      have hs1 : w1.heap.size = W.heap.size + 1 + 1 + 1 := by rw [hw1]; simp
      have LB := Aside0.mk (show W.heap.size ≤ rb ∧ rb < w1.heap.size from ⟨by omega, by omega⟩)
      have G1 := Aside0.mk g1
      have HB1 := Aside0.mk hb1
      clear hw1 g0 gw g1 hb1 hrb hs1
      refine (HC.out w1 HB1.out).mono ?_
      rintro e w2 ⟨v4, rfl, hR2, hb⟩
      obtain ⟨E0, E1, E2, E3, E6, d0_, d1_, d2_, d3_, d6_, gl, gu, gs, hRC⟩ := hR2.open_
      obtain rfl := hRC.hv
      obtain ⟨m0, hm0⟩ : ∃ m, m = S2.stable.length := ⟨_, rfl⟩
      obtain ⟨m1, hm1⟩ : ∃ m, m = S2.old.length := ⟨_, rfl⟩
      obtain ⟨m2, hm2⟩ : ∃ m, m = S2.pend.length := ⟨_, rfl⟩
      obtain ⟨m3, hm3⟩ : ∃ m, m = gl.length := ⟨_, rfl⟩
      obtain ⟨m6, hm6⟩ : ∃ m, m = gs.length := ⟨_, rfl⟩
      obtain ⟨ma, hma⟩ : ∃ m, m = S2.failed := ⟨_, rfl⟩
      rw [← hm0, ← hm1, ← hm2, ← hm3, ← hm6, ← hma]
      rw [← hm0, ← hm1, ← hm2, ← hm3, ← hm6, ← hma] at hR2
      have g1 := blk_below G1.out hb
      obtain ⟨r0, r1, r2, r3, r4, r5, r6⟩ := cells7 g1
      obtain ⟨s0, s1, s2, s3, s4, s5, s6⟩ := froz7 g1
      have HR2 := Aside0.mk hR2
      have G2 := Aside0.mk g1
      have HB2 := Aside0.mk (HB1.out.trans (hb.mono HB1.out.size))
      clear hRC hm0 hm1 hm2 hm3 hm6 hma hR2 g1 hb HC
      go_wp2_with fail
      have hbC := set7_below HB2.out LB.out.1 (.slice E0 m0 d0_) (.slice E1 m1 d1_) (.slice E2 m2 d2_) (.slice E3 m3 d3_) (.bool ma) (.int .i64 gu) (.slice E6 m6 d6_)
      refine bodyPost_ret (results_ct rfl _ _ rb 31 #[.slice E0 m0 d0_, .slice E1 m1 d1_, .slice E2 m2 d2_, .slice E3 m3 d3_, .bool ma, .int .i64 gu, .slice E6 m6 d6_] (0, 0) _ rfl (set7_blk G2.out (.slice E0 m0 d0_) (.slice E1 m1 d1_) (.slice E2 m2 d2_) (.slice E3 m3 d3_) (.bool ma) (.int .i64 gu) (.slice E6 m6 d6_)) Try.underlying31 rfl (by kernel_rfl)) rfl ?_
      refine ⟨_, rfl, ?_, hbC⟩
      exact (HR2.out.step (fun k hk _ => set7_far w2 rb (.slice E0 m0 d0_) (.slice E1 m1 d1_) (.slice E2 m2 d2_) (.slice E3 m3 d3_) (.bool ma) (.int .i64 gu) (.slice E6 m6 d6_) k (fun e => by have l1 := LB.out.1; have l2 := LB.out.2; rcases hk with hk | hk <;> omega))).mono (fun k hk _ => hk.elim (fun z => Or.inl z.1) (fun z => Or.inr (by have := HB1.out.size; omega)))
     ·have dd4 : (o.f0 % 8 == 4) = false := beq_eq_false_iff_ne.2 (by rw [HKD.out]; exact c_4)
      by_cases c_5 : kd = 5
      ·have dd5 : (o.f0 % 8 == 5) = true := by rw [HKD.out, c_5]; rfl
       rw [if_neg c_0] at hrs
       rw [if_neg c_1] at hrs
       rw [if_neg c_2] at hrs
       rw [if_neg c_3] at hrs
       rw [if_neg c_4] at hrs
       rw [if_pos c_5] at hrs
       obtain ⟨hr0, hS2⟩ := Prod.mk.inj hrs
       subst hr0
       have HC := Aside0.mk (fun (w : World) (hb : Below W.heap.size W w) => show Calls Try.prog 33 #[.agg #[.slice A0 n0 c0, .slice A1 n1 c1, .slice A2 n2 c2, .slice A3 n3 c3, .bool fa, .int .i64 fu, .slice A6 n6 c6]] w fun e w' => RChPost (fun k => ok k ∧ k < W.heap.size) S2 w e w' from by
        have h := repair_ref ((HR.out.mono (ok' := fun k => ok k ∧ k < W.heap.size) (fun k hk hlt => ⟨hk, hlt⟩)).below hb)
        rw [hS2] at h
        exact h)
       clear hkb hrs c_0 c_1 c_2 c_3 c_4 c_5 hS2
       go_enter Try.func13, Try.ntmps13
       go_wp2_with fail
       obtain ⟨w1, hw1⟩ : ∃ w1, w1 = ((W.alloc (.cells #[.slice A0 n0 c0, .slice A1 n1 c1, .slice A2 n2 c2, .slice A3 n3 c3, .bool fa, .int .i64 fu, .slice A6 n6 c6] 31)).alloc (.cells #[.int .u8 o.f0, .int .i64 o.f1.f0, .int .i64 o.f1.f1, .int .i64 o.f2, .string o.f3, .int .i64 o.f4, .int .u8 o.f5, .slice A o.f6.length c] 37)).alloc (.cells #[.slice none 0 0, .slice none 0 0, .slice none 0 0, .slice none 0 0, .bool false, .int .i64 0, .slice none 0 0] 31) := ⟨_, rfl⟩
       obtain ⟨g0, gw, g1, hb1⟩ := three W (.cells #[.slice A0 n0 c0, .slice A1 n1 c1, .slice A2 n2 c2, .slice A3 n3 c3, .bool fa, .int .i64 fu, .slice A6 n6 c6] 31) (.cells #[.int .u8 o.f0, .int .i64 o.f1.f0, .int .i64 o.f1.f1, .int .i64 o.f2, .string o.f3, .int .i64 o.f4, .int .u8 o.f5, .slice A o.f6.length c] 37) (.cells #[.slice none 0 0, .slice none 0 0, .slice none 0 0, .slice none 0 0, .bool false, .int .i64 0, .slice none 0 0] 31)
       rw [← hw1] at g0 gw g1 hb1 ⊢
       obtain ⟨rb, hrb⟩ : ∃ rb, rb = W.heap.size + 1 + 1 := ⟨_, rfl⟩
       rw [← hrb] at g1 ⊢
       have hs1 : w1.heap.size = W.heap.size + 1 + 1 + 1 := by rw [hw1]; simp
       have LB := Aside0.mk (show W.heap.size ≤ rb ∧ rb < w1.heap.size from ⟨by omega, by omega⟩)
       have G1 := Aside0.mk g1
       have HB1 := Aside0.mk hb1
       clear hw1 g0 gw g1 hb1 hrb hs1
       refine (HC.out w1 HB1.out).mono ?_
       rintro e w2 ⟨v4, rfl, hR2, hb⟩
       obtain ⟨E0, E1, E2, E3, E6, d0_, d1_, d2_, d3_, d6_, gl, gu, gs, hRC⟩ := hR2.open_
       obtain rfl := hRC.hv
       obtain ⟨m0, hm0⟩ : ∃ m, m = S2.stable.length := ⟨_, rfl⟩
       obtain ⟨m1, hm1⟩ : ∃ m, m = S2.old.length := ⟨_, rfl⟩
       obtain ⟨m2, hm2⟩ : ∃ m, m = S2.pend.length := ⟨_, rfl⟩
       obtain ⟨m3, hm3⟩ : ∃ m, m = gl.length := ⟨_, rfl⟩
       obtain ⟨m6, hm6⟩ : ∃ m, m = gs.length := ⟨_, rfl⟩
       obtain ⟨ma, hma⟩ : ∃ m, m = S2.failed := ⟨_, rfl⟩
       rw [← hm0, ← hm1, ← hm2, ← hm3, ← hm6, ← hma]
       rw [← hm0, ← hm1, ← hm2, ← hm3, ← hm6, ← hma] at hR2
       have g1 := blk_below G1.out hb
       obtain ⟨r0, r1, r2, r3, r4, r5, r6⟩ := cells7 g1
       obtain ⟨s0, s1, s2, s3, s4, s5, s6⟩ := froz7 g1
       have HR2 := Aside0.mk hR2
       have G2 := Aside0.mk g1
       have HB2 := Aside0.mk (HB1.out.trans (hb.mono HB1.out.size))
       clear hRC hm0 hm1 hm2 hm3 hm6 hma hR2 g1 hb HC
       go_wp2_with fail
       have hbC := set7_below HB2.out LB.out.1 (.slice E0 m0 d0_) (.slice E1 m1 d1_) (.slice E2 m2 d2_) (.slice E3 m3 d3_) (.bool ma) (.int .i64 gu) (.slice E6 m6 d6_)
       refine bodyPost_ret (results_ct rfl _ _ rb 31 #[.slice E0 m0 d0_, .slice E1 m1 d1_, .slice E2 m2 d2_, .slice E3 m3 d3_, .bool ma, .int .i64 gu, .slice E6 m6 d6_] (0, 0) _ rfl (set7_blk G2.out (.slice E0 m0 d0_) (.slice E1 m1 d1_) (.slice E2 m2 d2_) (.slice E3 m3 d3_) (.bool ma) (.int .i64 gu) (.slice E6 m6 d6_)) Try.underlying31 rfl (by kernel_rfl)) rfl ?_
       refine ⟨_, rfl, ?_, hbC⟩
       exact (HR2.out.step (fun k hk _ => set7_far w2 rb (.slice E0 m0 d0_) (.slice E1 m1 d1_) (.slice E2 m2 d2_) (.slice E3 m3 d3_) (.bool ma) (.int .i64 gu) (.slice E6 m6 d6_) k (fun e => by have l1 := LB.out.1; have l2 := LB.out.2; rcases hk with hk | hk <;> omega))).mono (fun k hk _ => hk.elim (fun z => Or.inl z.1) (fun z => Or.inr (by have := HB1.out.size; omega)))
      ·have dd5 : (o.f0 % 8 == 5) = false := beq_eq_false_iff_ne.2 (by rw [HKD.out]; exact c_5)
       by_cases c_6 : kd = 6
       ·have dd6 : (o.f0 % 8 == 6) = true := by rw [HKD.out, c_6]; rfl
        rw [if_neg c_0] at hrs
        rw [if_neg c_1] at hrs
        rw [if_neg c_2] at hrs
        rw [if_neg c_3] at hrs
        rw [if_neg c_4] at hrs
        rw [if_neg c_5] at hrs
        rw [if_pos c_6] at hrs
        have HC := Aside0.mk (fun (w : World) (hb : Below W.heap.size W w) => show Calls Try.prog 34 #[.agg #[.slice A0 n0 c0, .slice A1 n1 c1, .slice A2 n2 c2, .slice A3 n3 c3, .bool fa, .int .i64 fu, .slice A6 n6 c6], .int .i64 o.f2, .int .i64 o.f4, .int .u8 o.f5] w fun e w' => RPost2 (fun k => ok k ∧ k < W.heap.size) r S2 w e w' from by
         have h := damage_ref ((HR.out.mono (ok' := fun k => ok k ∧ k < W.heap.size) (fun k hk hlt => ⟨hk, hlt⟩)).below hb) HG.out.fine o.f2 o.f4 o.f5
         rw [hrs] at h
         exact h)
        clear hkb hrs c_0 c_1 c_2 c_3 c_4 c_5 c_6
        go_enter Try.func13, Try.ntmps13
        go_wp2_with fail
        obtain ⟨w1, hw1⟩ : ∃ w1, w1 = ((W.alloc (.cells #[.slice A0 n0 c0, .slice A1 n1 c1, .slice A2 n2 c2, .slice A3 n3 c3, .bool fa, .int .i64 fu, .slice A6 n6 c6] 31)).alloc (.cells #[.int .u8 o.f0, .int .i64 o.f1.f0, .int .i64 o.f1.f1, .int .i64 o.f2, .string o.f3, .int .i64 o.f4, .int .u8 o.f5, .slice A o.f6.length c] 37)).alloc (.cells #[.slice none 0 0, .slice none 0 0, .slice none 0 0, .slice none 0 0, .bool false, .int .i64 0, .slice none 0 0] 31) := ⟨_, rfl⟩
        obtain ⟨g0, gw, g1, hb1⟩ := three W (.cells #[.slice A0 n0 c0, .slice A1 n1 c1, .slice A2 n2 c2, .slice A3 n3 c3, .bool fa, .int .i64 fu, .slice A6 n6 c6] 31) (.cells #[.int .u8 o.f0, .int .i64 o.f1.f0, .int .i64 o.f1.f1, .int .i64 o.f2, .string o.f3, .int .i64 o.f4, .int .u8 o.f5, .slice A o.f6.length c] 37) (.cells #[.slice none 0 0, .slice none 0 0, .slice none 0 0, .slice none 0 0, .bool false, .int .i64 0, .slice none 0 0] 31)
        rw [← hw1] at g0 gw g1 hb1 ⊢
        obtain ⟨rb, hrb⟩ : ∃ rb, rb = W.heap.size + 1 + 1 := ⟨_, rfl⟩
        rw [← hrb] at g1 ⊢
        have hs1 : w1.heap.size = W.heap.size + 1 + 1 + 1 := by rw [hw1]; simp
        have LB := Aside0.mk (show W.heap.size ≤ rb ∧ rb < w1.heap.size from ⟨by omega, by omega⟩)
        have G1 := Aside0.mk g1
        have HB1 := Aside0.mk hb1
        clear hw1 g0 gw g1 hb1 hrb hs1
        refine (HC.out w1 HB1.out).mono ?_
        rintro e w2 ⟨v4, rfl, hR2, hb⟩
        obtain ⟨E0, E1, E2, E3, E6, d0_, d1_, d2_, d3_, d6_, gl, gu, gs, hRC⟩ := hR2.open_
        obtain rfl := hRC.hv
        obtain ⟨m0, hm0⟩ : ∃ m, m = S2.stable.length := ⟨_, rfl⟩
        obtain ⟨m1, hm1⟩ : ∃ m, m = S2.old.length := ⟨_, rfl⟩
        obtain ⟨m2, hm2⟩ : ∃ m, m = S2.pend.length := ⟨_, rfl⟩
        obtain ⟨m3, hm3⟩ : ∃ m, m = gl.length := ⟨_, rfl⟩
        obtain ⟨m6, hm6⟩ : ∃ m, m = gs.length := ⟨_, rfl⟩
        obtain ⟨ma, hma⟩ : ∃ m, m = S2.failed := ⟨_, rfl⟩
        rw [← hm0, ← hm1, ← hm2, ← hm3, ← hm6, ← hma]
        rw [← hm0, ← hm1, ← hm2, ← hm3, ← hm6, ← hma] at hR2
        have g1 := blk_below G1.out hb
        obtain ⟨r0, r1, r2, r3, r4, r5, r6⟩ := cells7 g1
        obtain ⟨s0, s1, s2, s3, s4, s5, s6⟩ := froz7 g1
        have HR2 := Aside0.mk hR2
        have G2 := Aside0.mk g1
        have HB2 := Aside0.mk (HB1.out.trans (hb.mono HB1.out.size))
        clear hRC hm0 hm1 hm2 hm3 hm6 hma hR2 g1 hb HC
        go_wp2_with fail
        have hbC := set7_below HB2.out LB.out.1 (.slice E0 m0 d0_) (.slice E1 m1 d1_) (.slice E2 m2 d2_) (.slice E3 m3 d3_) (.bool ma) (.int .i64 gu) (.slice E6 m6 d6_)
        refine bodyPost_ret (results_ct rfl _ _ rb 31 #[.slice E0 m0 d0_, .slice E1 m1 d1_, .slice E2 m2 d2_, .slice E3 m3 d3_, .bool ma, .int .i64 gu, .slice E6 m6 d6_] (0, 0) _ rfl (set7_blk G2.out (.slice E0 m0 d0_) (.slice E1 m1 d1_) (.slice E2 m2 d2_) (.slice E3 m3 d3_) (.bool ma) (.int .i64 gu) (.slice E6 m6 d6_)) Try.underlying31 rfl (by kernel_rfl)) rfl ?_
        refine ⟨_, rfl, ?_, hbC⟩
        exact (HR2.out.step (fun k hk _ => set7_far w2 rb (.slice E0 m0 d0_) (.slice E1 m1 d1_) (.slice E2 m2 d2_) (.slice E3 m3 d3_) (.bool ma) (.int .i64 gu) (.slice E6 m6 d6_) k (fun e => by have l1 := LB.out.1; have l2 := LB.out.2; rcases hk with hk | hk <;> omega))).mono (fun k hk _ => hk.elim (fun z => Or.inl z.1) (fun z => Or.inr (by have := HB1.out.size; omega)))
       ·have dd6 : (o.f0 % 8 == 6) = false := beq_eq_false_iff_ne.2 (by rw [HKD.out]; exact c_6)
        have c_7 : kd = 7 := by omega
        rw [if_neg c_0] at hrs
        rw [if_neg c_1] at hrs
        rw [if_neg c_2] at hrs
        rw [if_neg c_3] at hrs
        rw [if_neg c_4] at hrs
        rw [if_neg c_5] at hrs
        rw [if_neg c_6] at hrs
        have HC := Aside0.mk (fun (w : World) (hb : Below W.heap.size W w) => show Calls Try.prog 35 #[.agg #[.slice A0 n0 c0, .slice A1 n1 c1, .slice A2 n2 c2, .slice A3 n3 c3, .bool fa, .int .i64 fu, .slice A6 n6 c6], .int .i64 o.f2, .int .i64 o.f4] w fun e w' => RPost2 (fun k => ok k ∧ k < W.heap.size) r S2 w e w' from by
         have h := return_ref ((HR.out.mono (ok' := fun k => ok k ∧ k < W.heap.size) (fun k hk hlt => ⟨hk, hlt⟩)).below hb) HG.out.fine o.f2 o.f4
         rw [hrs] at h
         exact h)
        clear hkb hrs c_0 c_1 c_2 c_3 c_4 c_5 c_6 c_7
        go_enter Try.func13, Try.ntmps13
        go_wp2_with fail
        obtain ⟨w1, hw1⟩ : ∃ w1, w1 = ((W.alloc (.cells #[.slice A0 n0 c0, .slice A1 n1 c1, .slice A2 n2 c2, .slice A3 n3 c3, .bool fa, .int .i64 fu, .slice A6 n6 c6] 31)).alloc (.cells #[.int .u8 o.f0, .int .i64 o.f1.f0, .int .i64 o.f1.f1, .int .i64 o.f2, .string o.f3, .int .i64 o.f4, .int .u8 o.f5, .slice A o.f6.length c] 37)).alloc (.cells #[.slice none 0 0, .slice none 0 0, .slice none 0 0, .slice none 0 0, .bool false, .int .i64 0, .slice none 0 0] 31) := ⟨_, rfl⟩
        obtain ⟨g0, gw, g1, hb1⟩ := three W (.cells #[.slice A0 n0 c0, .slice A1 n1 c1, .slice A2 n2 c2, .slice A3 n3 c3, .bool fa, .int .i64 fu, .slice A6 n6 c6] 31) (.cells #[.int .u8 o.f0, .int .i64 o.f1.f0, .int .i64 o.f1.f1, .int .i64 o.f2, .string o.f3, .int .i64 o.f4, .int .u8 o.f5, .slice A o.f6.length c] 37) (.cells #[.slice none 0 0, .slice none 0 0, .slice none 0 0, .slice none 0 0, .bool false, .int .i64 0, .slice none 0 0] 31)
        rw [← hw1] at g0 gw g1 hb1 ⊢
        obtain ⟨rb, hrb⟩ : ∃ rb, rb = W.heap.size + 1 + 1 := ⟨_, rfl⟩
        rw [← hrb] at g1 ⊢
        have hs1 : w1.heap.size = W.heap.size + 1 + 1 + 1 := by rw [hw1]; simp
        have LB := Aside0.mk (show W.heap.size ≤ rb ∧ rb < w1.heap.size from ⟨by omega, by omega⟩)
        have G1 := Aside0.mk g1
        have HB1 := Aside0.mk hb1
        clear hw1 g0 gw g1 hb1 hrb hs1
        refine (HC.out w1 HB1.out).mono ?_
        rintro e w2 ⟨v4, rfl, hR2, hb⟩
        obtain ⟨E0, E1, E2, E3, E6, d0_, d1_, d2_, d3_, d6_, gl, gu, gs, hRC⟩ := hR2.open_
        obtain rfl := hRC.hv
        obtain ⟨m0, hm0⟩ : ∃ m, m = S2.stable.length := ⟨_, rfl⟩
        obtain ⟨m1, hm1⟩ : ∃ m, m = S2.old.length := ⟨_, rfl⟩
        obtain ⟨m2, hm2⟩ : ∃ m, m = S2.pend.length := ⟨_, rfl⟩
        obtain ⟨m3, hm3⟩ : ∃ m, m = gl.length := ⟨_, rfl⟩
        obtain ⟨m6, hm6⟩ : ∃ m, m = gs.length := ⟨_, rfl⟩
        obtain ⟨ma, hma⟩ : ∃ m, m = S2.failed := ⟨_, rfl⟩
        rw [← hm0, ← hm1, ← hm2, ← hm3, ← hm6, ← hma]
        rw [← hm0, ← hm1, ← hm2, ← hm3, ← hm6, ← hma] at hR2
        have g1 := blk_below G1.out hb
        obtain ⟨r0, r1, r2, r3, r4, r5, r6⟩ := cells7 g1
        obtain ⟨s0, s1, s2, s3, s4, s5, s6⟩ := froz7 g1
        have HR2 := Aside0.mk hR2
        have G2 := Aside0.mk g1
        have HB2 := Aside0.mk (HB1.out.trans (hb.mono HB1.out.size))
        clear hRC hm0 hm1 hm2 hm3 hm6 hma hR2 g1 hb HC
        go_wp2_with fail
        have hbC := set7_below HB2.out LB.out.1 (.slice E0 m0 d0_) (.slice E1 m1 d1_) (.slice E2 m2 d2_) (.slice E3 m3 d3_) (.bool ma) (.int .i64 gu) (.slice E6 m6 d6_)
        refine bodyPost_ret (results_ct rfl _ _ rb 31 #[.slice E0 m0 d0_, .slice E1 m1 d1_, .slice E2 m2 d2_, .slice E3 m3 d3_, .bool ma, .int .i64 gu, .slice E6 m6 d6_] (0, 0) _ rfl (set7_blk G2.out (.slice E0 m0 d0_) (.slice E1 m1 d1_) (.slice E2 m2 d2_) (.slice E3 m3 d3_) (.bool ma) (.int .i64 gu) (.slice E6 m6 d6_)) Try.underlying31 rfl (by kernel_rfl)) rfl ?_
        refine ⟨_, rfl, ?_, hbC⟩
        exact (HR2.out.step (fun k hk _ => set7_far w2 rb (.slice E0 m0 d0_) (.slice E1 m1 d1_) (.slice E2 m2 d2_) (.slice E3 m3 d3_) (.bool ma) (.int .i64 gu) (.slice E6 m6 d6_) k (fun e => by have l1 := LB.out.1; have l2 := LB.out.2; rcases hk with hk | hk <;> omega))).mono (fun k hk _ => hk.elim (fun z => Or.inl z.1) (fun z => Or.inr (by have := HB1.out.size; omega)))
end
end Go.Proofs.Ytflajmgichdhhaa.PG
namespace Go.Proofs.Ytflajmgichdhhaa.PG
open Go.RowKit Go.Proofs.YtflajmgichdhhaaW.PrintWords Go.Proofs.YtflajmgichdhhaaW.PrintLast Go.Proofs.YtflajmgichdhhaaW.PrintMore
set_option linter.unusedVariables false
set_option linter.unusedSimpArgs false
open Go.ChangeMaps (setBlock)
attribute [local go_sem] max2_int min2_int max_two min_two
theorem nil76 (w : World) (n c : Nat) : (binOp .eql 76 (.slice none n c) (.slice none 0 0)).run Try.prog w = .ok (.bool true) w := by kernel_rfl
theorem some76 (w : World) (ad : Addr) (n c : Nat) : (binOp .eql 76 (.slice (some ad) n c) (.slice none 0 0)).run Try.prog w = .ok (.bool false) w := by kernel_rfl
set_option maxRecDepth 100000 in
theorem clone44 (W : World) (A : Option Addr) (c : Nat) (l : List S99) (hC : Kd.C k99 W A l.length l) (hl : l.length ≤ 1000000) :
  Calls Try.prog 44 #[.slice A l.length c] W fun e W' => ∃ v, e = .returned v ∧ Kd.R k99 84 W' W.heap.size (fun k => W.heap.size ≤ k) v l ∧ Below W.heap.size W W' := by
 cases A with
 | none =>
  have h0 : l = [] := by
   rcases Nat.eq_zero_or_pos l.length with h | h
   ·exact List.eq_nil_of_length_eq_zero h
   ·obtain ⟨ad, e, _⟩ := hC.2.2 h
    cases e
  subst h0
  have hn := nil76
  clear hC
  go_enter Try.func44, Try.ntmps44
  go_wp2_with fail
  go_ret
  exact ⟨_, rfl, Kd.R_nil _ _ _ _ _, Below.refl _ _⟩
 | some ad =>
  have hs := some76
  have HC := Aside0.mk hC
  clear hC
  go_enter Try.func44, Try.ntmps44
  go_wp2_with (at_builtin; with_reducible refine stopHere ?_)
  refine ⟨?_⟩
  have hO : Kd.R k99 84 (W.alloc (.cells #[] 84)) W.heap.size (fun k => W.heap.size ≤ k) (.slice (some ⟨W.heap.size, 0, none⟩) 0 0) [] := by
   refine ⟨fun k hk => ?_, [], ⟨rfl, Or.inr ⟨W.heap.size, 0, #[], rfl, Nat.le_refl _, blk_new _ _, Nat.le_refl _, Nat.zero_le _, rfl, rfl⟩⟩, Reps.none _ _⟩
   simp [Value.ownBlock] at hk
   omega
  refine Kd.R_append_rows k99 (w0 := W) W.heap.size rfl (.tmp 5) (.tmp 6) 76 84 (.agg #[.int .i64 0, .int .i64 0, .string ⟨#[]⟩]) 32 rfl Try.underlying76 info84 rfl (by decide) (by omega) _ [] l (some ad) l.length c (fun k => W.heap.size ≤ k) (fun _ => False) rfl rfl hO (Kd.C_alloc HC.out _) (fun x cs h => by rw [k99_open h]; exact k99_mkM _ _ _ x) (fun _ h => h.elim) (fun k hk => by simp at hk; omega) (below_alloc (Below.refl _ _) _) (by simp) (by simp; omega) ?_
  intro v1 w1 hR hb hg hat
  have HR := Aside0.mk hR
  have HB := Aside0.mk hb
  clear hR hb hg hat hO
  go_wp2_with fail
  go_ret
  exact ⟨v1, rfl, HR.out, HB.out⟩
theorem nil26 (w : World) (n c : Nat) : (binOp .eql 26 (.slice none n c) (.slice none 0 0)).run Try.prog w = .ok (.bool true) w := by kernel_rfl
theorem some26 (w : World) (ad : Addr) (n c : Nat) : (binOp .eql 26 (.slice (some ad) n c) (.slice none 0 0)).run Try.prog w = .ok (.bool false) w := by kernel_rfl
set_option maxRecDepth 100000 in
theorem clone45 (W : World) (A : Option Addr) (c : Nat) (l : List ByteArray) (hC : Kd.C Kd.string W A l.length l) (hl : l.length ≤ 1000000) :
  Calls Try.prog 45 #[.slice A l.length c] W fun e W' => ∃ v, e = .returned v ∧ Kd.R Kd.string 9 W' W.heap.size (fun k => W.heap.size ≤ k) v l ∧ Below W.heap.size W W' := by
 cases A with
 | none =>
  have h0 : l = [] := by
   rcases Nat.eq_zero_or_pos l.length with h | h
   ·exact List.eq_nil_of_length_eq_zero h
   ·obtain ⟨ad, e, _⟩ := hC.2.2 h
    cases e
  subst h0
  have hn := nil26
  clear hC
  go_enter Try.func45, Try.ntmps45
  go_wp2_with fail
  go_ret
  exact ⟨_, rfl, Kd.R_nil _ _ _ _ _, Below.refl _ _⟩
 | some ad =>
  have hs := some26
  have HC := Aside0.mk hC
  clear hC
  go_enter Try.func45, Try.ntmps45
  go_wp2_with (at_builtin; with_reducible refine stopHere ?_)
  refine ⟨?_⟩
  have hO : Kd.R Kd.string 9 (W.alloc (.cells #[] 9)) W.heap.size (fun k => W.heap.size ≤ k) (.slice (some ⟨W.heap.size, 0, none⟩) 0 0) [] := by
   refine ⟨fun k hk => ?_, [], ⟨rfl, Or.inr ⟨W.heap.size, 0, #[], rfl, Nat.le_refl _, blk_new _ _, Nat.le_refl _, Nat.zero_le _, rfl, rfl⟩⟩, Reps.none _ _⟩
   simp [Value.ownBlock] at hk
   omega
  refine Kd.R_append_rows Kd.string (w0 := W) W.heap.size rfl (.tmp 5) (.tmp 6) 26 9 (.string ⟨#[]⟩) 16 rfl Try.underlying26 info9 rfl (by decide) (by omega) _ [] l (some ad) l.length c (fun k => W.heap.size ≤ k) (fun _ => False) rfl rfl hO (Kd.C_alloc HC.out _) (fun _ _ h => h) (fun _ h => h.elim) (fun k hk => by simp at hk; omega) (below_alloc (Below.refl _ _) _) (by simp) (by simp; omega) ?_
  intro v1 w1 hR hb hg hat
  have HR := Aside0.mk hR
  have HB := Aside0.mk hb
  clear hR hb hg hat hO
  go_wp2_with fail
  go_ret
  exact ⟨v1, rfl, HR.out, HB.out⟩
def Rng (w : World) (b r : Nat) (m : Ents) (lf : Int → Bool) (n : Nat) : Prop :=
  ∃ es clock since seen c0, w.heap[b]? = some (.map es clock) ∧ es.toList.map entry = m.map (fun x => (encP x.1, encC x.2)) ∧ (keys m).Nodup ∧ MapKept.Stamped es clock ∧ w.heap[r]? = some (.mapIter (some b) since seen c0) ∧
    (∀ x ∈ es.toList, x.born < since) ∧ since ≤ c0 ∧ since ≤ clock ∧ (leftOf es seen).size = n ∧ ∀ x ∈ es.toList, ∀ a, x.key = encP a → lf a = !seen.contains x.born
theorem Rng.move {w w' : World} {b r : Nat} {m : Ents} {lf : Int → Bool} {n : Nat} (h : Rng w b r m lf n) (hb : w'.heap[b]? = w.heap[b]?) (hr : w'.heap[r]? = w.heap[r]?) : Rng w' b r m lf n := by
 obtain ⟨es, clock, since, seen, c0, h1, h2, h3, h4, h5, h6⟩ := h
 exact ⟨es, clock, since, seen, c0, hb.trans h1, h2, h3, h4, hr.trans h5, h6⟩
theorem Rng.isMap {w : World} {b r : Nat} {m : Ents} {lf : Int → Bool} {n : Nat} (h : Rng w b r m lf n) : MapIs w b m := by
 obtain ⟨es, clock, since, seen, c0, h1, h2, h3, h4, _⟩ := h
 exact ⟨es, clock, h1, h2, h3, h4⟩
theorem Rng.iter {w : World} {b r : Nat} {m : Ents} {lf : Int → Bool} {n : Nat} (h : Rng w b r m lf n) : ∃ x y z, w.heap[r]? = some (.mapIter (some b) x y z) := by
 obtain ⟨es, clock, since, seen, c0, _, _, _, _, h5, _⟩ := h
 exact ⟨since, seen, c0, h5⟩
theorem MapIs.range {w : World} {b : Nat} {m : Ents} (h : MapIs w b m) :
  ∃ o, (Instr.range 77 (.map (some b))).run Try.prog w = .ok (.pointer (some ⟨w.heap.size, 0, none⟩)) (w.alloc o) ∧ Rng (w.alloc o) b w.heap.size m (fun _ => true) m.length := by
 have hlt := h.lt
 obtain ⟨es, clock, hb, hes, hn, hst⟩ := h
 have hlen : es.toList.length = m.length := by have := congrArg List.length hes; simpa using this
 refine ⟨_, run_range_map w 77 3 3 b es clock Try.underlying77 hb, es, clock, clock, #[], clock, ((MapKept.heap_alloc w _).2 b hlt).trans hb, hes, hn, hst, (MapKept.heap_alloc w _).1, ((MapKept.stamped_iff es clock).1 hst).1, Nat.le_refl _, Nat.le_refl _, ?_, ?_⟩
 ·have hz : leftOf es #[] = es := Array.filter_eq_self.2 (fun _ _ => by simp)
  rw [hz]
  simpa using hlen
 ·intro x _ a _
  simp
theorem entry_of {es : List MapEntry} {m : Ents} (h : es.map entry = m.map (fun x => (encP x.1, encC x.2))) {x : MapEntry} (hx : x ∈ es) : ∃ a c, (a, c) ∈ m ∧ x.key = encP a ∧ x.val = encC c := by
 have h1 : entry x ∈ m.map (fun x => (encP x.1, encC x.2)) := by rw [← h]; exact List.mem_map_of_mem hx
 obtain ⟨y, hy, ey⟩ := List.mem_map.1 h1
 exact ⟨y.1, y.2, hy, (congrArg Prod.fst ey).symm, (congrArg Prod.snd ey).symm⟩
theorem entry_to {es : List MapEntry} {m : Ents} (h : es.map entry = m.map (fun x => (encP x.1, encC x.2))) {a : Int} (ha : a ∈ keys m) : ∃ x ∈ es, x.key = encP a := by
 obtain ⟨y, hy, ey⟩ := List.mem_map.1 ha
 have h1 : (encP y.1, encC y.2) ∈ es.map entry := by rw [h]; exact List.mem_map_of_mem (f := fun x : Int × Int => (encP x.1, encC x.2)) hy
 obtain ⟨x, hx, ex⟩ := List.mem_map.1 h1
 exact ⟨x, hx, by have := congrArg Prod.fst ex; rw [← ey]; exact this⟩
theorem look_mem {m : Ents} (hn : (keys m).Nodup) {a c : Int} (h : (a, c) ∈ m) : look a m = some c := by
 induction m with
 | nil => cases h
 | cons e m ih =>
  have hn' := List.nodup_cons.1 hn
  unfold look
  rcases List.mem_cons.1 h with rfl | h
  ·rw [if_pos rfl]
  ·rw [if_neg (fun z => hn'.1 (by show e.1 ∈ keys m; rw [z]; exact List.mem_map_of_mem (f := Prod.fst) h))]
   exact ih hn'.2 h
theorem Rng.next {w : World} {b r : Nat} {m : Ents} {lf : Int → Bool} {n : Nat} (h : Rng w b r m lf n) (ty : TypeId) :
  (n = 0 ∧ (∀ a ∈ keys m, lf a = false) ∧ (Instr.next (.pointer (some ⟨r, 0, none⟩)) false ty).run Try.prog w = .ok (.tuple #[.bool false]) w) ∨
  ∃ x c w' n', look x m = some c ∧ (Instr.next (.pointer (some ⟨r, 0, none⟩)) false ty).run Try.prog w = .ok (.tuple #[.bool true, encP x, encC c]) w' ∧ Rng w' b r m (fun a => lf a && !decide (a = x)) n' ∧ n' < n ∧ w.grownBy w' (some r) ∧ w'.heap.size = w.heap.size ∧
   (Instr.entry (.pointer (some ⟨r, 0, none⟩))).run Try.prog w' = .ok (.tuple #[encP x, encC c]) w' := by
 obtain ⟨es, clock, since, seen, c0, hb, hes, hn, hst, hr, hold, hsc, hsk, rfl, hlf⟩ := h
 have hne : r ≠ b := fun e => by rw [e, hb] at hr; cases hr
 have hst3 := (MapKept.stamped_iff es clock).1 hst
 rcases run_next_at (P := Try.prog) w ty r b since c0 seen es clock hr hb hold hsc with ⟨h0, hrun⟩ | ⟨e, he, w1, hal, hrun⟩
 ·refine Or.inl ⟨h0, fun a ha => ?_, hrun⟩
  obtain ⟨x, hx, ex⟩ := entry_to hes ha
  rw [hlf x hx a ex, all_seen es seen h0 x hx]
  rfl
 ·obtain ⟨hem, hsn⟩ := mem_left he
  obtain ⟨a, c, hac, ek, ev⟩ := entry_of hes hem
  have hr1 : w1.heap[r]? = some (.mapIter (some b) since seen c0) := by rcases hal with rfl | rfl <;> exact hr
  have hb1 : w1.heap[b]? = some (.map es clock) := by rcases hal with rfl | rfl <;> exact hb
  have hlt : r < w1.heap.size := (Array.getElem?_eq_some_iff.1 hr1).1
  have hsr : (setBlock w1 r (.mapIter (some b) since (seen.push e.born) clock)).heap[r]? = some (.mapIter (some b) since (seen.push e.born) clock) := by simp [setBlock, Array.getElem?_setIfInBounds, hlt]
  have hso : ∀ k, k ≠ r → (setBlock w1 r (.mapIter (some b) since (seen.push e.born) clock)).heap[k]? = w1.heap[k]? := fun k hk => by simp [setBlock, Array.getElem?_setIfInBounds, Ne.symm hk]
  have hsb := (hso b (Ne.symm hne)).trans hb1
  rw [ek, ev] at hrun
  refine Or.inr ⟨a, c, _, _, look_mem hn hac, hrun, ⟨es, clock, since, seen.push e.born, clock, hsb, hes, hn, hst, hsr, hold, hsk, hsk, rfl, fun x hx a' ea => ?_⟩, left_shrinks es seen e he, ?_, ?_, ?_⟩
  ·show (lf a' && !decide (a' = a)) = _
   rw [hlf x hx a' ea]
   have hbe : (x.born == e.born) = decide (a' = a) := by
    by_cases hq : x.born = e.born
    ·have hxe : x = e := born_inj hst3.2.1 hx hem hq
     have h1 : encP a' = encP a := by rw [← ea, hxe, ek]
     have : a' = a := by unfold encP at h1; injection h1
     simp [hq, this]
    ·have : ¬ a' = a := fun z => hq (by
      have hk : x.key = e.key := by rw [ea, ek, z]
      exact congrArg MapEntry.born (entry_eq_of_key hst3.2.2 hx hem hk))
     simp [hq, this]
   rw [contains_push, ← hbe]
   cases seen.contains x.born <;> cases (x.born == e.born) <;> rfl
  ·rcases hal with rfl | rfl <;> exact ⟨rfl, rfl, rfl, by simp [setBlock], fun i _ hi => hso i (fun e1 => hi (by rw [e1]))⟩
  ·rcases hal with rfl | rfl <;> simp [setBlock]
  ·have := run_entry_at (P := Try.prog) _ r b since seen es clock e hsr hsb hem hst3.2.1
   rw [ek, ev] at this
   exact this
end Go.Proofs.Ytflajmgichdhhaa.PG
namespace Go.Proofs.Ytflajmgichdhhaa.PG
open Go.RowKit Go.Proofs.YtflajmgichdhhaaW.PrintWords Go.Proofs.YtflajmgichdhhaaW.PrintLast Go.Proofs.YtflajmgichdhhaaW.PrintMore
set_option linter.unusedVariables false
set_option linter.unusedSimpArgs false
attribute [local go_sem] max2_int min2_int max_two min_two
structure Calm (S : DevS) : Prop where
  failed : S.failed = false
  fences : ∀ a, S.fences a = none
  fset : S.fset = false
theorem Calm.admit {S : DevS} (h : Calm S) (sys ep : Int) : admitS S sys ep = (0, S) := by
 unfold admitS fencedS
 rw [h.failed, if_neg (by simp), h.fences sys, if_neg (by simp), h.fset, if_pos rfl]
theorem Calm.write {S : DevS} (h : Calm S) (sys ep sec : Int) (d : ByteArray) (hp : plainB sys ep = true) (hd : d.size = 140) (h0 : 0 ≤ sec) (h1 : sec < (S.stable.length : Int)) : writeS S sys ep sec d = (0, pushS S ⟨sys, sec, d⟩) := by
 unfold writeS
 rw [if_pos ⟨hp, hd⟩, if_pos ⟨h0, h1⟩, h.admit, if_pos rfl]
theorem Calm.sync {S : DevS} (h : Calm S) (sys ep : Int) (hp : plainB sys ep = true) : syncS S sys ep = (0, finishS (isOf sys) (List.replicate S.pend.length 140) S) := by
 unfold syncS
 rw [if_pos hp, h.admit, if_pos rfl]
theorem Calm.push {S : DevS} (h : Calm S) (w : S99) : Calm (pushS S w) := ⟨h.failed, h.fences, h.fset⟩
theorem Calm.finish {S : DevS} (h : Calm S) (p : S99 → Bool) (l : List Int) : Calm (finishS p l S) := by
 have hs := endF_same p l S.pend (0, S)
 exact ⟨hs.failed.trans h.failed, fun a => by show (endF p l S.pend (0, S)).2.fences a = none; rw [hs.fences]; exact h.fences a, hs.fset.trans h.fset⟩
def cOld : ByteArray := fullS ⟨#[111, 108, 100]⟩
def cTwo : ByteArray := fullS ⟨#[116, 119, 111]⟩
def cA (j : Nat) : DevS := { newS 6 with pend := (List.range j).map fun (i : Nat) => ⟨2, (i : Int), cOld⟩ }
def cB : DevS := ⟨List.replicate 6 cOld, List.replicate 6 [zeros140], [], fun _ => none, false, 0, [], false⟩
def cC : DevS := { cB with pend := [⟨2, 5, cTwo⟩] }
def pendD (l : List ByteArray) (k : Nat) : List S99 := (List.range (min k 5)).map fun (i : Nat) => ⟨1, (i : Int), fullS (l.getD i ⟨#[]⟩)⟩
def cD (l : List ByteArray) (k : Nat) : DevS := { cB with pend := ⟨2, 5, cTwo⟩ :: pendD l k }
def cE (l : List ByteArray) (sv : List Int) : DevS := finishS (isOf 1) sv (cD l l.length)
def wantS (l : List ByteArray) (sv : List Int) (i : Nat) : ByteArray := if i < min l.length 5 then cut (fullS (l.getD i ⟨#[]⟩)) cOld (bytesAt sv i) else cOld
end Go.Proofs.Ytflajmgichdhhaa.PG
namespace Go.Proofs.Ytflajmgichdhhaa.PG
open Go.RowKit Go.Proofs.YtflajmgichdhhaaW.PrintWords Go.Proofs.YtflajmgichdhhaaW.PrintLast Go.Proofs.YtflajmgichdhhaaW.PrintMore
set_option linter.unusedVariables false
set_option linter.unusedSimpArgs false
theorem w64 (n : Int) (h0 : -9223372036854775808 ≤ n) (h1 : n ≤ 9223372036854775807) : wrap64 n = n := by unfold wrap64; omega
theorem rdT37_at (xs : List S37) (i : Nat) (h : i < xs.length) : rd_T37 xs (i : Int) = xs[i] := by
 unfold rd_T37
 rw [Int.toNat_natCast, List.getD_eq_getElem?_getD, List.getElem?_eq_getElem h]
 rfl
def FewOk (l : List S37) (m : Nat) : Prop := l.length ≤ m ∧ ∀ o ∈ l, o.f6.length ≤ 100
theorem few_at (l : List S37) (m : Nat) (hl : l.length ≤ maxLen) : ∀ (n i : Nat), i ≤ l.length → l.length - i ≤ n → (∀ o ∈ l.take i, o.f6.length ≤ 100) → ∃ k r, dasdref03_Few.l0 k l m (i : Int) = some r ∧ (r = true → FewOk l m)
 | 0, i, hi, hn, ha => ⟨1, _, by unfold dasdref03_Few.l0; rw [if_neg (by omega)], fun h => ⟨by have := of_decide_eq_true h; omega, fun o ho => ha o (by rw [List.take_of_length_le (by omega)]; exact ho)⟩⟩
 | n + 1, i, hi, hn, ha => by
  by_cases h : i < l.length
  ·have hw : wrap64 ((i : Int) + 1) = ((i + 1 : Nat) : Int) := by
    have : l.length ≤ 9223372036854775807 := hl
    rw [w64 _ (by omega) (by omega)]; omega
   by_cases hs : (((rd_T37 l i).f3).size : Int) > 300
   ·exact ⟨1, false, by unfold dasdref03_Few.l0; rw [if_pos (by omega), if_pos (by omega), if_pos hs], fun h => by cases h⟩
   ·by_cases hs2 : (((rd_T37 l i).f6).length : Int) > 100
    ·exact ⟨1, false, by unfold dasdref03_Few.l0; rw [if_pos (by omega), if_pos (by omega), if_neg hs, if_pos hs2], fun h => by cases h⟩
    ·obtain ⟨k, r, h1, h2⟩ := few_at l m hl n (i + 1) (by omega) (by omega) (fun o ho => by
      rw [List.take_succ_eq_append_getElem h] at ho
      rcases List.mem_append.1 ho with ho | ho
      ·exact ha o ho
      ·rw [List.mem_singleton.1 ho, ← rdT37_at l i h]; omega)
     exact ⟨k + 1, r, by unfold dasdref03_Few.l0; rw [if_pos (by omega), if_pos (by omega), if_neg hs, if_neg hs2, hw]; exact h1, h2⟩
  ·exact ⟨1, _, by unfold dasdref03_Few.l0; rw [if_neg (by omega)], fun z => ⟨by have := of_decide_eq_true z; omega, fun o ho => ha o (by rw [List.take_of_length_le (by omega)]; exact ho)⟩⟩
def FewPost (l : List S37) (m : Nat) (W : World) (e : Ending) (W' : World) : Prop := ∃ r, e = .returned (.bool r) ∧ (r = true → FewOk l m) ∧ Below W.heap.size W W'
theorem few_calls (W : World) (a : Option Addr) (c : Nat) (l : List S37) (m : Nat) (hr : Kd.C k37 W a l.length l) (hc : l.length ≤ c) (hl : c ≤ maxLen) :
  Calls Try.prog 11 #[.slice a l.length c, .int .i64 m] W fun e W' => FewPost l m W e W' := by
 obtain ⟨k, r, h1, h2⟩ := few_at l m (Nat.le_trans hc hl) l.length 0 (Nat.zero_le _) (by omega) (fun o ho => by cases ho)
 refine (dasdref03_Few.calls k a c l m r W hr hc h1).mono ?_
 rintro e W' ⟨rfl, hd⟩
 exact ⟨r, rfl, h2, hd.below⟩
theorem Inv.do {W0 W1 : World} {L : Lay} {K : List (Nat × Obj)} {S : DevS} {k : Nat} (h : Inv W0 L K S W1) (hg : Good k S) (hk : k ≤ 1000000) (o : S37) (hw : Opens.OpWf o) (A : Option Addr) (c : Nat) (hC : Kd.C (Kd.int .i64) W0 A o.f6.length o.f6) (hlc : o.f6.length ≤ c) (hlm : o.f6.length ≤ 1000000) :
  Calls Try.prog 14 #[.pointer (some ⟨L.g, 0, none⟩), .agg (opCells o A c)] W1 fun e W' => e = .returned (.int .i64 (doS o S).1) ∧ Inv W0 L K (doS o S).2 W' :=
 h.post (fun F hI => do_calls hI hg hk o hw A c (Kd.F_mono (Kd.F_below (Kd.C_F (Kd.heap_int _) hC) h.bel) (fun k hk z => by have := (hI.range _ z).1; omega)) hlc hlm)
end Go.Proofs.Ytflajmgichdhhaa.PG

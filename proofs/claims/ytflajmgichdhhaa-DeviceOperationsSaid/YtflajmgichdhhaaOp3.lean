/- The walks and plain facts behind the row of DeviceOperations: part 4 of 4. -/
import Derived.Test.YtflajmgichdhhaaOp2
namespace Go.Proofs.Ytflajmgichdhhaa.PG
open Go.RowKit Go.Proofs.YtflajmgichdhhaaW.PrintWords Go.Proofs.YtflajmgichdhhaaW.PrintLast Go.Proofs.YtflajmgichdhhaaW.PrintMore
set_option linter.unusedVariables false
set_option linter.unusedSimpArgs false
def RPost2 (ok : Nat → Prop) (r : Int) (S' : DevS) (W : World) (e : Ending) (W' : World) : Prop := ∃ v, e = .returned (.tuple #[v, .int .i64 r]) ∧ RefIs W' (fun k => ok k ∨ W.heap.size ≤ k) v S' ∧ Below W.heap.size W W'
theorem writer_f (sys ep : Int) : dasdref03_writer.f sys ep = some (plainB sys ep) := by
 unfold dasdref03_writer.f plainB
 by_cases h1 : sys ≥ 1
 ·rw [if_pos h1]
  by_cases h2 : sys ≤ 4
  ·rw [if_pos h2]
   by_cases h3 : ep ≥ 0
   ·rw [if_pos h3]
    congr 1
    by_cases h4 : ep ≤ 1099511627776
    ·rw [decide_eq_true h4, decide_eq_true ⟨h1, h2, h3, h4⟩]
    ·rw [decide_eq_false h4, decide_eq_false (fun z => h4 z.2.2.2)]
   ·rw [if_neg h3, decide_eq_false (fun z => h3 z.2.2.1)]
  ·rw [if_neg h2, decide_eq_false (fun z => h2 z.2.1)]
 ·rw [if_neg h1, decide_eq_false (fun z => h1 z.1)]
section
variable {W : World} {ok : Nat → Prop} {v : Value} {S : DevS}
set_option maxRecDepth 100000 in
set_option maxHeartbeats 4000000 in
theorem dosync_ref {k : Nat} (hR : RefIs W ok v S) (hG : Good k S) (hk : k ≤ 1000000) (sys ep : Int) : Calls Try.prog 29 #[v, .agg #[.int .i64 sys, .int .i64 ep]] W fun e W' => RPost2 ok (syncS S sys ep).1 (syncS S sys ep).2 W e W' := by
 have HG := Aside0.mk hG
 clear hG
 obtain ⟨v0, v1, v2, v3, v6, fl, fu, sv, hA⟩ := id hR
 obtain rfl := hA.hv
 obtain ⟨A0, c0, e0, hl0, hF0⟩ := hA.h0
 obtain ⟨A1, c1, e1, hl1, hF1⟩ := hA.h1
 obtain ⟨A2, c2, e2, hl2, hF2⟩ := hA.h2
 obtain ⟨A3, c3, e3, hl3, hF3⟩ := hA.h3
 obtain ⟨A6, c6, e6, hl6, hF6⟩ := hA.h6
 subst e0 e1 e2 e3 e6
 have HR := Aside0.mk hR
 have HA := Aside0.mk hA
 have HF0 := Aside0.mk hF0
 have HF1 := Aside0.mk hF1
 have HF2 := Aside0.mk hF2
 have HF3 := Aside0.mk hF3
 obtain ⟨n0, hn0⟩ : ∃ n0, n0 = S.stable.length := ⟨_, rfl⟩
 obtain ⟨n1, hn1⟩ : ∃ n1, n1 = S.old.length := ⟨_, rfl⟩
 obtain ⟨n2, hn2⟩ : ∃ n2, n2 = S.pend.length := ⟨_, rfl⟩
 obtain ⟨n3, hn3⟩ : ∃ n3, n3 = fl.length := ⟨_, rfl⟩
 obtain ⟨n6, hn6⟩ : ∃ n6, n6 = sv.length := ⟨_, rfl⟩
 obtain ⟨fa, hfa⟩ : ∃ fa, fa = S.failed := ⟨_, rfl⟩
 have EQ := Aside0.mk (show n0 = S.stable.length ∧ n1 = S.old.length ∧ n2 = S.pend.length ∧ n3 = fl.length ∧ n6 = sv.length ∧ fa = S.failed from ⟨hn0, hn1, hn2, hn3, hn6, hfa⟩)
 rw [← hn0, ← hn1, ← hn2, ← hn3, ← hn6, ← hfa]
 rw [← hn0, ← hn1, ← hn2, ← hn3, ← hn6, ← hfa] at HR
 clear hR hA hF0 hF1 hF2 hF3 hF6 hl0 hl1 hl2 hl3 hl6 hn0 hn1 hn2 hn3 hn6 hfa
 unfold RPost2
 cases hpb : plainB sys ep with
 | false =>
  have hu : syncS S sys ep = (1, S) := by unfold syncS; rw [hpb]; rfl
  rw [hu]
  have HWR := Aside0.mk (fun w => dasdref03_writer.calls sys ep false w (by rw [writer_f, hpb]))
  clear hu hpb
  go_enter Try.func29, Try.ntmps29
  go_wp2_with fail
  obtain ⟨w1, hw1⟩ : ∃ w1, w1 = ((W.alloc (.cells #[.slice A0 n0 c0, .slice A1 n1 c1, .slice A2 n2 c2, .slice A3 n3 c3, .bool fa, .int .i64 fu, .slice A6 n6 c6] 31)).alloc (.cells #[.int .i64 sys, .int .i64 ep] 35)).alloc (.cells #[.slice none 0 0, .slice none 0 0, .slice none 0 0, .slice none 0 0, .bool false, .int .i64 0, .slice none 0 0] 31) := ⟨_, rfl⟩
  obtain ⟨g0, gw, g1, hb1⟩ := three W (.cells #[.slice A0 n0 c0, .slice A1 n1 c1, .slice A2 n2 c2, .slice A3 n3 c3, .bool fa, .int .i64 fu, .slice A6 n6 c6] 31) (.cells #[.int .i64 sys, .int .i64 ep] 35) (.cells #[.slice none 0 0, .slice none 0 0, .slice none 0 0, .slice none 0 0, .bool false, .int .i64 0, .slice none 0 0] 31)
  rw [← hw1] at g0 gw g1 hb1 ⊢
  obtain ⟨bx, hbx⟩ : ∃ bx, bx = W.heap.size := ⟨_, rfl⟩
  obtain ⟨bw, hbw⟩ : ∃ bw, bw = W.heap.size + 1 := ⟨_, rfl⟩
  obtain ⟨rb, hrb⟩ : ∃ rb, rb = W.heap.size + 1 + 1 := ⟨_, rfl⟩
  rw [← hrb] at g1 ⊢
  rw [← hbw] at gw ⊢
  rw [show (Value.pointer (some ⟨W.heap.size, 0, none⟩)) = .pointer (some ⟨bx, 0, none⟩) by rw [hbx]]
  rw [← hbx] at g0
  have hs1 : w1.heap.size = W.heap.size + 1 + 1 + 1 := by rw [hw1]; simp
  have LB := Aside0.mk (show W.heap.size ≤ bx ∧ W.heap.size ≤ bw ∧ W.heap.size ≤ rb ∧ bx ≠ rb ∧ bw ≠ rb ∧ bx ≠ bw ∧ bx < w1.heap.size ∧ rb < w1.heap.size ∧ bw < w1.heap.size from ⟨by omega, by omega, by omega, by omega, by omega, by omega, by omega, by omega, by omega⟩)
  have ne1 : bx ≠ rb := LB.out.2.2.2.1
  have ne2 : rb ≠ bx := fun e => ne1 e.symm
  have HBW := Aside0.mk hb1
  obtain ⟨k0, k1, k2, k3, k4, k5, k6⟩ := cells7 g0
  obtain ⟨z0, z1, z2, z3, z4, z5, z6⟩ := froz7 g0
  have y0 : w1.cell? ⟨bw, 0, none⟩ = some (.int .i64 sys) := by rw [blk_cell gw]; rfl
  have y1 : w1.cell? ⟨bw, 1, none⟩ = some (.int .i64 ep) := by rw [blk_cell gw]; rfl
  obtain ⟨r0, r1, r2, r3, r4, r5, r6⟩ := cells7 g1
  obtain ⟨s0, s1, s2, s3, s4, s5, s6⟩ := froz7 g1
  have G0 := Aside0.mk g0
  have GW := Aside0.mk gw
  have G1 := Aside0.mk g1
  clear g0 gw g1
  clear hw1 hb1 hbx hbw hrb hs1
  refine (HWR.out w1).mono ?_
  rintro e w2 ⟨rfl, hb⟩
  have g0 := blk_below G0.out hb
  have gw := blk_below GW.out hb
  have g1 := blk_below G1.out hb
  have hbw := HBW.out.trans (hb.mono HBW.out.size)
  have SZ12 : w1.heap.size ≤ w2.heap.size := hb.size
  clear k0 k1 k2 k3 k4 k5 k6 z0 z1 z2 z3 z4 z5 z6 y0 y1 r0 r1 r2 r3 r4 r5 r6 s0 s1 s2 s3 s4 s5 s6 G0 GW G1 HBW
  have HBW := Aside0.mk hbw
  obtain ⟨k0, k1, k2, k3, k4, k5, k6⟩ := cells7 g0
  obtain ⟨z0, z1, z2, z3, z4, z5, z6⟩ := froz7 g0
  have y0 : w2.cell? ⟨bw, 0, none⟩ = some (.int .i64 sys) := by rw [blk_cell gw]; rfl
  have y1 : w2.cell? ⟨bw, 1, none⟩ = some (.int .i64 ep) := by rw [blk_cell gw]; rfl
  obtain ⟨r0, r1, r2, r3, r4, r5, r6⟩ := cells7 g1
  obtain ⟨s0, s1, s2, s3, s4, s5, s6⟩ := froz7 g1
  have G0 := Aside0.mk g0
  have GW := Aside0.mk gw
  have G1 := Aside0.mk g1
  clear g0 gw g1
  clear hb hbw
  go_wp2_with fail
  have hbC := set7_below HBW.out LB.out.2.2.1 (.slice A0 n0 c0) (.slice A1 n1 c1) (.slice A2 n2 c2) (.slice A3 n3 c3) (.bool fa) (.int .i64 fu) (.slice A6 n6 c6)
  refine bodyPost_ret (results_ct rfl _ _ rb 31 #[.slice A0 n0 c0, .slice A1 n1 c1, .slice A2 n2 c2, .slice A3 n3 c3, .bool fa, .int .i64 fu, .slice A6 n6 c6] (0, 0) _ rfl (set7_blk G1.out (.slice A0 n0 c0) (.slice A1 n1 c1) (.slice A2 n2 c2) (.slice A3 n3 c3) (.bool fa) (.int .i64 fu) (.slice A6 n6 c6)) Try.underlying31 rfl (by kernel_rfl)) rfl ?_
  refine ⟨_, rfl, ?_, hbC⟩
  exact (HR.out.below hbC).mono (fun k hk _ => Or.inl hk)
 | true =>
  have hbo : 1 ≤ sys ∧ sys ≤ 4 ∧ 0 ≤ ep ∧ ep ≤ 1099511627776 := of_decide_eq_true hpb
  have HWR := Aside0.mk (fun w => dasdref03_writer.calls sys ep true w (by rw [writer_f, hpb]))
  have HSY := Aside0.mk (show syncS S sys ep = (if (admitS S sys ep).1 = 0 then (0, finishS (isOf sys) (List.replicate (admitS S sys ep).2.pend.length 140) (admitS S sys ep).2) else admitS S sys ep) by unfold syncS; rw [if_pos hpb])
  have HBO := Aside0.mk hbo
  have EFA := Aside0.mk (show S.failed = fa from EQ.out.2.2.2.2.2.symm)
  clear hpb hbo
  cases fa with
  | true =>
   have hu : syncS S sys ep = (10, S) := by
    have ha : admitS S sys ep = (10, S) := by unfold admitS; rw [if_pos EFA.out]
    rw [HSY.out, ha, if_neg (by show ¬ (10 : Int) = 0; decide)]
   rw [hu]
   clear hu
   go_enter Try.func29, Try.ntmps29
   go_wp2_with fail
   obtain ⟨w1, hw1⟩ : ∃ w1, w1 = ((W.alloc (.cells #[.slice A0 n0 c0, .slice A1 n1 c1, .slice A2 n2 c2, .slice A3 n3 c3, .bool true, .int .i64 fu, .slice A6 n6 c6] 31)).alloc (.cells #[.int .i64 sys, .int .i64 ep] 35)).alloc (.cells #[.slice none 0 0, .slice none 0 0, .slice none 0 0, .slice none 0 0, .bool false, .int .i64 0, .slice none 0 0] 31) := ⟨_, rfl⟩
   obtain ⟨g0, gw, g1, hb1⟩ := three W (.cells #[.slice A0 n0 c0, .slice A1 n1 c1, .slice A2 n2 c2, .slice A3 n3 c3, .bool true, .int .i64 fu, .slice A6 n6 c6] 31) (.cells #[.int .i64 sys, .int .i64 ep] 35) (.cells #[.slice none 0 0, .slice none 0 0, .slice none 0 0, .slice none 0 0, .bool false, .int .i64 0, .slice none 0 0] 31)
   rw [← hw1] at g0 gw g1 hb1 ⊢
   obtain ⟨bx, hbx⟩ : ∃ bx, bx = W.heap.size := ⟨_, rfl⟩
   obtain ⟨bw, hbw⟩ : ∃ bw, bw = W.heap.size + 1 := ⟨_, rfl⟩
   obtain ⟨rb, hrb⟩ : ∃ rb, rb = W.heap.size + 1 + 1 := ⟨_, rfl⟩
   rw [← hrb] at g1 ⊢
   rw [← hbw] at gw ⊢
   rw [show (Value.pointer (some ⟨W.heap.size, 0, none⟩)) = .pointer (some ⟨bx, 0, none⟩) by rw [hbx]]
   rw [← hbx] at g0
   have hs1 : w1.heap.size = W.heap.size + 1 + 1 + 1 := by rw [hw1]; simp
   have LB := Aside0.mk (show W.heap.size ≤ bx ∧ W.heap.size ≤ bw ∧ W.heap.size ≤ rb ∧ bx ≠ rb ∧ bw ≠ rb ∧ bx ≠ bw ∧ bx < w1.heap.size ∧ rb < w1.heap.size ∧ bw < w1.heap.size from ⟨by omega, by omega, by omega, by omega, by omega, by omega, by omega, by omega, by omega⟩)
   have ne1 : bx ≠ rb := LB.out.2.2.2.1
   have ne2 : rb ≠ bx := fun e => ne1 e.symm
   have HBW := Aside0.mk hb1
   obtain ⟨k0, k1, k2, k3, k4, k5, k6⟩ := cells7 g0
   obtain ⟨z0, z1, z2, z3, z4, z5, z6⟩ := froz7 g0
   have y0 : w1.cell? ⟨bw, 0, none⟩ = some (.int .i64 sys) := by rw [blk_cell gw]; rfl
   have y1 : w1.cell? ⟨bw, 1, none⟩ = some (.int .i64 ep) := by rw [blk_cell gw]; rfl
   obtain ⟨r0, r1, r2, r3, r4, r5, r6⟩ := cells7 g1
   obtain ⟨s0, s1, s2, s3, s4, s5, s6⟩ := froz7 g1
   have G0 := Aside0.mk g0
   have GW := Aside0.mk gw
   have G1 := Aside0.mk g1
   clear g0 gw g1
   clear hw1 hb1 hbx hbw hrb hs1
   refine (HWR.out w1).mono ?_
   rintro e w2 ⟨rfl, hb⟩
   have g0 := blk_below G0.out hb
   have gw := blk_below GW.out hb
   have g1 := blk_below G1.out hb
   have hbw := HBW.out.trans (hb.mono HBW.out.size)
   have SZ12 : w1.heap.size ≤ w2.heap.size := hb.size
   clear k0 k1 k2 k3 k4 k5 k6 z0 z1 z2 z3 z4 z5 z6 y0 y1 r0 r1 r2 r3 r4 r5 r6 s0 s1 s2 s3 s4 s5 s6 G0 GW G1 HBW
   have HBW := Aside0.mk hbw
   obtain ⟨k0, k1, k2, k3, k4, k5, k6⟩ := cells7 g0
   obtain ⟨z0, z1, z2, z3, z4, z5, z6⟩ := froz7 g0
   have y0 : w2.cell? ⟨bw, 0, none⟩ = some (.int .i64 sys) := by rw [blk_cell gw]; rfl
   have y1 : w2.cell? ⟨bw, 1, none⟩ = some (.int .i64 ep) := by rw [blk_cell gw]; rfl
   obtain ⟨r0, r1, r2, r3, r4, r5, r6⟩ := cells7 g1
   obtain ⟨s0, s1, s2, s3, s4, s5, s6⟩ := froz7 g1
   have G0 := Aside0.mk g0
   have GW := Aside0.mk gw
   have G1 := Aside0.mk g1
   clear g0 gw g1
   clear hb hbw
   go_wp2_with fail
   have hbC := set7_below HBW.out LB.out.2.2.1 (.slice A0 n0 c0) (.slice A1 n1 c1) (.slice A2 n2 c2) (.slice A3 n3 c3) (.bool true) (.int .i64 fu) (.slice A6 n6 c6)
   refine bodyPost_ret (results_ct rfl _ _ rb 31 #[.slice A0 n0 c0, .slice A1 n1 c1, .slice A2 n2 c2, .slice A3 n3 c3, .bool true, .int .i64 fu, .slice A6 n6 c6] (0, 0) _ rfl (set7_blk G1.out (.slice A0 n0 c0) (.slice A1 n1 c1) (.slice A2 n2 c2) (.slice A3 n3 c3) (.bool true) (.int .i64 fu) (.slice A6 n6 c6)) Try.underlying31 rfl (by kernel_rfl)) rfl ?_
   refine ⟨_, rfl, ?_, hbC⟩
   exact (HR.out.below hbC).mono (fun k hk _ => Or.inl hk)
  | false =>
   have HFC := Aside0.mk (fun (w : World) (hb : Below W.heap.size W w) => fenced_ref (HR.out.below hb) sys ep HBO.out.1 HBO.out.2.1 HBO.out.2.2.1 HBO.out.2.2.2)
   cases hfe : fencedS S sys ep with
   | true =>
    have hu : syncS S sys ep = (13, S) := by
     have ha : admitS S sys ep = (13, S) := by unfold admitS; rw [if_neg (by rw [EFA.out]; simp), if_pos hfe]
     rw [HSY.out, ha, if_neg (by show ¬ (13 : Int) = 0; decide)]
    rw [hu]
    rw [hfe] at HFC
    clear hu hfe
    go_enter Try.func29, Try.ntmps29
    go_wp2_with fail
    obtain ⟨w1, hw1⟩ : ∃ w1, w1 = ((W.alloc (.cells #[.slice A0 n0 c0, .slice A1 n1 c1, .slice A2 n2 c2, .slice A3 n3 c3, .bool false, .int .i64 fu, .slice A6 n6 c6] 31)).alloc (.cells #[.int .i64 sys, .int .i64 ep] 35)).alloc (.cells #[.slice none 0 0, .slice none 0 0, .slice none 0 0, .slice none 0 0, .bool false, .int .i64 0, .slice none 0 0] 31) := ⟨_, rfl⟩
    obtain ⟨g0, gw, g1, hb1⟩ := three W (.cells #[.slice A0 n0 c0, .slice A1 n1 c1, .slice A2 n2 c2, .slice A3 n3 c3, .bool false, .int .i64 fu, .slice A6 n6 c6] 31) (.cells #[.int .i64 sys, .int .i64 ep] 35) (.cells #[.slice none 0 0, .slice none 0 0, .slice none 0 0, .slice none 0 0, .bool false, .int .i64 0, .slice none 0 0] 31)
    rw [← hw1] at g0 gw g1 hb1 ⊢
    obtain ⟨bx, hbx⟩ : ∃ bx, bx = W.heap.size := ⟨_, rfl⟩
    obtain ⟨bw, hbw⟩ : ∃ bw, bw = W.heap.size + 1 := ⟨_, rfl⟩
    obtain ⟨rb, hrb⟩ : ∃ rb, rb = W.heap.size + 1 + 1 := ⟨_, rfl⟩
    rw [← hrb] at g1 ⊢
    rw [← hbw] at gw ⊢
    rw [show (Value.pointer (some ⟨W.heap.size, 0, none⟩)) = .pointer (some ⟨bx, 0, none⟩) by rw [hbx]]
    rw [← hbx] at g0
    have hs1 : w1.heap.size = W.heap.size + 1 + 1 + 1 := by rw [hw1]; simp
    have LB := Aside0.mk (show W.heap.size ≤ bx ∧ W.heap.size ≤ bw ∧ W.heap.size ≤ rb ∧ bx ≠ rb ∧ bw ≠ rb ∧ bx ≠ bw ∧ bx < w1.heap.size ∧ rb < w1.heap.size ∧ bw < w1.heap.size from ⟨by omega, by omega, by omega, by omega, by omega, by omega, by omega, by omega, by omega⟩)
    have ne1 : bx ≠ rb := LB.out.2.2.2.1
    have ne2 : rb ≠ bx := fun e => ne1 e.symm
    have HBW := Aside0.mk hb1
    obtain ⟨k0, k1, k2, k3, k4, k5, k6⟩ := cells7 g0
    obtain ⟨z0, z1, z2, z3, z4, z5, z6⟩ := froz7 g0
    have y0 : w1.cell? ⟨bw, 0, none⟩ = some (.int .i64 sys) := by rw [blk_cell gw]; rfl
    have y1 : w1.cell? ⟨bw, 1, none⟩ = some (.int .i64 ep) := by rw [blk_cell gw]; rfl
    obtain ⟨r0, r1, r2, r3, r4, r5, r6⟩ := cells7 g1
    obtain ⟨s0, s1, s2, s3, s4, s5, s6⟩ := froz7 g1
    have G0 := Aside0.mk g0
    have GW := Aside0.mk gw
    have G1 := Aside0.mk g1
    clear g0 gw g1
    clear hw1 hb1 hbx hbw hrb hs1
    refine (HWR.out w1).mono ?_
    rintro e w2 ⟨rfl, hb⟩
    have g0 := blk_below G0.out hb
    have gw := blk_below GW.out hb
    have g1 := blk_below G1.out hb
    have hbw := HBW.out.trans (hb.mono HBW.out.size)
    have SZ12 : w1.heap.size ≤ w2.heap.size := hb.size
    clear k0 k1 k2 k3 k4 k5 k6 z0 z1 z2 z3 z4 z5 z6 y0 y1 r0 r1 r2 r3 r4 r5 r6 s0 s1 s2 s3 s4 s5 s6 G0 GW G1 HBW
    have HBW := Aside0.mk hbw
    obtain ⟨k0, k1, k2, k3, k4, k5, k6⟩ := cells7 g0
    obtain ⟨z0, z1, z2, z3, z4, z5, z6⟩ := froz7 g0
    have y0 : w2.cell? ⟨bw, 0, none⟩ = some (.int .i64 sys) := by rw [blk_cell gw]; rfl
    have y1 : w2.cell? ⟨bw, 1, none⟩ = some (.int .i64 ep) := by rw [blk_cell gw]; rfl
    obtain ⟨r0, r1, r2, r3, r4, r5, r6⟩ := cells7 g1
    obtain ⟨s0, s1, s2, s3, s4, s5, s6⟩ := froz7 g1
    have G0 := Aside0.mk g0
    have GW := Aside0.mk gw
    have G1 := Aside0.mk g1
    clear g0 gw g1
    clear hb hbw
    go_wp2_with fail
    refine (HFC.out w2 HBW.out).mono ?_
    rintro e w3 ⟨rfl, hb⟩
    have g0 := blk_below G0.out hb
    have gw := blk_below GW.out hb
    have g1 := blk_below G1.out hb
    have hbw := HBW.out.trans (hb.mono HBW.out.size)
    have SZ23 : w2.heap.size ≤ w3.heap.size := hb.size
    clear k0 k1 k2 k3 k4 k5 k6 z0 z1 z2 z3 z4 z5 z6 y0 y1 r0 r1 r2 r3 r4 r5 r6 s0 s1 s2 s3 s4 s5 s6 G0 GW G1 HBW
    have HBW := Aside0.mk hbw
    obtain ⟨k0, k1, k2, k3, k4, k5, k6⟩ := cells7 g0
    obtain ⟨z0, z1, z2, z3, z4, z5, z6⟩ := froz7 g0
    have y0 : w3.cell? ⟨bw, 0, none⟩ = some (.int .i64 sys) := by rw [blk_cell gw]; rfl
    have y1 : w3.cell? ⟨bw, 1, none⟩ = some (.int .i64 ep) := by rw [blk_cell gw]; rfl
    obtain ⟨r0, r1, r2, r3, r4, r5, r6⟩ := cells7 g1
    obtain ⟨s0, s1, s2, s3, s4, s5, s6⟩ := froz7 g1
    have G0 := Aside0.mk g0
    have GW := Aside0.mk gw
    have G1 := Aside0.mk g1
    clear g0 gw g1
    clear hb hbw
    go_wp2_with fail
    have hbC := set7_below HBW.out LB.out.2.2.1 (.slice A0 n0 c0) (.slice A1 n1 c1) (.slice A2 n2 c2) (.slice A3 n3 c3) (.bool false) (.int .i64 fu) (.slice A6 n6 c6)
    refine bodyPost_ret (results_ct rfl _ _ rb 31 #[.slice A0 n0 c0, .slice A1 n1 c1, .slice A2 n2 c2, .slice A3 n3 c3, .bool false, .int .i64 fu, .slice A6 n6 c6] (0, 0) _ rfl (set7_blk G1.out (.slice A0 n0 c0) (.slice A1 n1 c1) (.slice A2 n2 c2) (.slice A3 n3 c3) (.bool false) (.int .i64 fu) (.slice A6 n6 c6)) Try.underlying31 rfl (by kernel_rfl)) rfl ?_
    refine ⟨_, rfl, ?_, hbC⟩
    exact (HR.out.below hbC).mono (fun k hk _ => Or.inl hk)
   | false =>
    have ha := admit_use S sys ep EFA.out hfe
    have hgu : Good k (useS S).2 := by have := HG.out.admit sys ep; rw [ha] at this; exact this
    rw [ha] at HSY
    rw [hfe] at HFC
    have HGU := Aside0.mk hgu
    clear ha hgu hfe
    cases hb' : (useS S).1 with
    | true =>
     rw [hb'] at HSY
     have hu : syncS S sys ep = (10, (useS S).2) := by rw [HSY.out, if_pos rfl, if_neg (by show ¬ (10 : Int) = 0; decide)]
     rw [hu]
     have HUB := Aside0.mk hb'
     clear hu hb'
     go_enter Try.func29, Try.ntmps29
     go_wp2_with fail
     obtain ⟨w1, hw1⟩ : ∃ w1, w1 = ((W.alloc (.cells #[.slice A0 n0 c0, .slice A1 n1 c1, .slice A2 n2 c2, .slice A3 n3 c3, .bool false, .int .i64 fu, .slice A6 n6 c6] 31)).alloc (.cells #[.int .i64 sys, .int .i64 ep] 35)).alloc (.cells #[.slice none 0 0, .slice none 0 0, .slice none 0 0, .slice none 0 0, .bool false, .int .i64 0, .slice none 0 0] 31) := ⟨_, rfl⟩
     obtain ⟨g0, gw, g1, hb1⟩ := three W (.cells #[.slice A0 n0 c0, .slice A1 n1 c1, .slice A2 n2 c2, .slice A3 n3 c3, .bool false, .int .i64 fu, .slice A6 n6 c6] 31) (.cells #[.int .i64 sys, .int .i64 ep] 35) (.cells #[.slice none 0 0, .slice none 0 0, .slice none 0 0, .slice none 0 0, .bool false, .int .i64 0, .slice none 0 0] 31)
     rw [← hw1] at g0 gw g1 hb1 ⊢
     obtain ⟨bx, hbx⟩ : ∃ bx, bx = W.heap.size := ⟨_, rfl⟩
     obtain ⟨bw, hbw⟩ : ∃ bw, bw = W.heap.size + 1 := ⟨_, rfl⟩
     obtain ⟨rb, hrb⟩ : ∃ rb, rb = W.heap.size + 1 + 1 := ⟨_, rfl⟩
     rw [← hrb] at g1 ⊢
     rw [← hbw] at gw ⊢
     rw [show (Value.pointer (some ⟨W.heap.size, 0, none⟩)) = .pointer (some ⟨bx, 0, none⟩) by rw [hbx]]
     rw [← hbx] at g0
     have hs1 : w1.heap.size = W.heap.size + 1 + 1 + 1 := by rw [hw1]; simp
     have LB := Aside0.mk (show W.heap.size ≤ bx ∧ W.heap.size ≤ bw ∧ W.heap.size ≤ rb ∧ bx ≠ rb ∧ bw ≠ rb ∧ bx ≠ bw ∧ bx < w1.heap.size ∧ rb < w1.heap.size ∧ bw < w1.heap.size from ⟨by omega, by omega, by omega, by omega, by omega, by omega, by omega, by omega, by omega⟩)
     have ne1 : bx ≠ rb := LB.out.2.2.2.1
     have ne2 : rb ≠ bx := fun e => ne1 e.symm
     have HBW := Aside0.mk hb1
     obtain ⟨k0, k1, k2, k3, k4, k5, k6⟩ := cells7 g0
     obtain ⟨z0, z1, z2, z3, z4, z5, z6⟩ := froz7 g0
     have y0 : w1.cell? ⟨bw, 0, none⟩ = some (.int .i64 sys) := by rw [blk_cell gw]; rfl
     have y1 : w1.cell? ⟨bw, 1, none⟩ = some (.int .i64 ep) := by rw [blk_cell gw]; rfl
     obtain ⟨r0, r1, r2, r3, r4, r5, r6⟩ := cells7 g1
     obtain ⟨s0, s1, s2, s3, s4, s5, s6⟩ := froz7 g1
     have G0 := Aside0.mk g0
     have GW := Aside0.mk gw
     have G1 := Aside0.mk g1
     clear g0 gw g1
     clear hw1 hb1 hbx hbw hrb hs1
     refine (HWR.out w1).mono ?_
     rintro e w2 ⟨rfl, hb⟩
     have g0 := blk_below G0.out hb
     have gw := blk_below GW.out hb
     have g1 := blk_below G1.out hb
     have hbw := HBW.out.trans (hb.mono HBW.out.size)
     have SZ12 : w1.heap.size ≤ w2.heap.size := hb.size
     clear k0 k1 k2 k3 k4 k5 k6 z0 z1 z2 z3 z4 z5 z6 y0 y1 r0 r1 r2 r3 r4 r5 r6 s0 s1 s2 s3 s4 s5 s6 G0 GW G1 HBW
     have HBW := Aside0.mk hbw
     obtain ⟨k0, k1, k2, k3, k4, k5, k6⟩ := cells7 g0
     obtain ⟨z0, z1, z2, z3, z4, z5, z6⟩ := froz7 g0
     have y0 : w2.cell? ⟨bw, 0, none⟩ = some (.int .i64 sys) := by rw [blk_cell gw]; rfl
     have y1 : w2.cell? ⟨bw, 1, none⟩ = some (.int .i64 ep) := by rw [blk_cell gw]; rfl
     obtain ⟨r0, r1, r2, r3, r4, r5, r6⟩ := cells7 g1
     obtain ⟨s0, s1, s2, s3, s4, s5, s6⟩ := froz7 g1
     have G0 := Aside0.mk g0
     have GW := Aside0.mk gw
     have G1 := Aside0.mk g1
     clear g0 gw g1
     clear hb hbw
     go_wp2_with fail
     refine (HFC.out w2 HBW.out).mono ?_
     rintro e w3 ⟨rfl, hb⟩
     have g0 := blk_below G0.out hb
     have gw := blk_below GW.out hb
     have g1 := blk_below G1.out hb
     have hbw := HBW.out.trans (hb.mono HBW.out.size)
     have SZ23 : w2.heap.size ≤ w3.heap.size := hb.size
     clear k0 k1 k2 k3 k4 k5 k6 z0 z1 z2 z3 z4 z5 z6 y0 y1 r0 r1 r2 r3 r4 r5 r6 s0 s1 s2 s3 s4 s5 s6 G0 GW G1 HBW
     have HBW := Aside0.mk hbw
     obtain ⟨k0, k1, k2, k3, k4, k5, k6⟩ := cells7 g0
     obtain ⟨z0, z1, z2, z3, z4, z5, z6⟩ := froz7 g0
     have y0 : w3.cell? ⟨bw, 0, none⟩ = some (.int .i64 sys) := by rw [blk_cell gw]; rfl
     have y1 : w3.cell? ⟨bw, 1, none⟩ = some (.int .i64 ep) := by rw [blk_cell gw]; rfl
     obtain ⟨r0, r1, r2, r3, r4, r5, r6⟩ := cells7 g1
     obtain ⟨s0, s1, s2, s3, s4, s5, s6⟩ := froz7 g1
     have G0 := Aside0.mk g0
     have GW := Aside0.mk gw
     have G1 := Aside0.mk g1
     clear g0 gw g1
     clear hb hbw
     have SZ13 : w1.heap.size ≤ w3.heap.size := Nat.le_trans SZ12 SZ23
     go_wp2_with fail
     refine (use_ref (ok := fun k => ok k ∧ k < W.heap.size) ((HR.out.mono (ok' := fun k => ok k ∧ k < W.heap.size) (fun k hk hlt => ⟨hk, hlt⟩)).below HBW.out) HG.out hk).mono ?_
     rintro e w4 ⟨v4, rfl, hR4, hb⟩
     rw [HUB.out]
     have HW13 := Aside0.mk (show w1.heap.size ≤ w3.heap.size from SZ13)
     obtain ⟨E0, E1, E2, E3, E6, d0, d1, d2, d3, d6, gl, gu, gs, hRC⟩ := hR4.open_
     obtain rfl := hRC.hv
     obtain ⟨S2, hS2⟩ : ∃ S2, S2 = (useS S).2 := ⟨_, rfl⟩
     rw [← hS2] at hR4 ⊢
     have HS2 := Aside0.mk hS2
     clear hS2
     obtain ⟨m0, hm0⟩ : ∃ m, m = S2.stable.length := ⟨_, rfl⟩
     obtain ⟨m1, hm1⟩ : ∃ m, m = S2.old.length := ⟨_, rfl⟩
     obtain ⟨m2, hm2⟩ : ∃ m, m = S2.pend.length := ⟨_, rfl⟩
     obtain ⟨m3, hm3⟩ : ∃ m, m = gl.length := ⟨_, rfl⟩
     obtain ⟨m6, hm6⟩ : ∃ m, m = gs.length := ⟨_, rfl⟩
     obtain ⟨ma, hma⟩ : ∃ m, m = S2.failed := ⟨_, rfl⟩
     rw [← hm0, ← hm1, ← hm2, ← hm3, ← hm6, ← hma]
     rw [← hm0, ← hm1, ← hm2, ← hm3, ← hm6, ← hma] at hR4
     have HR4 := Aside0.mk hR4
     clear hRC hm0 hm1 hm2 hm3 hm6 hma hR4
     have g0 := blk_below G0.out hb
     have gw := blk_below GW.out hb
     have g1 := blk_below G1.out hb
     have hbw := HBW.out.trans (hb.mono HBW.out.size)
     have SZ34 : w3.heap.size ≤ w4.heap.size := hb.size
     clear k0 k1 k2 k3 k4 k5 k6 z0 z1 z2 z3 z4 z5 z6 y0 y1 r0 r1 r2 r3 r4 r5 r6 s0 s1 s2 s3 s4 s5 s6 G0 GW G1 HBW
     have HBW := Aside0.mk hbw
     obtain ⟨k0, k1, k2, k3, k4, k5, k6⟩ := cells7 g0
     obtain ⟨z0, z1, z2, z3, z4, z5, z6⟩ := froz7 g0
     have y0 : w4.cell? ⟨bw, 0, none⟩ = some (.int .i64 sys) := by rw [blk_cell gw]; rfl
     have y1 : w4.cell? ⟨bw, 1, none⟩ = some (.int .i64 ep) := by rw [blk_cell gw]; rfl
     obtain ⟨r0, r1, r2, r3, r4, r5, r6⟩ := cells7 g1
     obtain ⟨s0, s1, s2, s3, s4, s5, s6⟩ := froz7 g1
     have G0 := Aside0.mk g0
     have GW := Aside0.mk gw
     have G1 := Aside0.mk g1
     clear g0 gw g1
     clear hb hbw
     go_upto_region 8 with (fail)
     obtain ⟨w5, hw5⟩ : ∃ w5, w5 = set7 w4 bx (.slice E0 m0 d0) (.slice E1 m1 d1) (.slice E2 m2 d2) (.slice E3 m3 d3) (.bool ma) (.int .i64 gu) (.slice E6 m6 d6) := ⟨_, rfl⟩
     have hf5 : ∀ k, k ≠ bx → w5.heap[k]? = w4.heap[k]? := fun k hk => by rw [hw5]; exact set7_far w4 bx (.slice E0 m0 d0) (.slice E1 m1 d1) (.slice E2 m2 d2) (.slice E3 m3 d3) (.bool ma) (.int .i64 gu) (.slice E6 m6 d6) k hk
     have g0 : w5.heap[bx]? = some (.cells #[.slice E0 m0 d0, .slice E1 m1 d1, .slice E2 m2 d2, .slice E3 m3 d3, .bool ma, .int .i64 gu, .slice E6 m6 d6] 31 (0, 0)) := by rw [hw5]; exact set7_blk G0.out (.slice E0 m0 d0) (.slice E1 m1 d1) (.slice E2 m2 d2) (.slice E3 m3 d3) (.bool ma) (.int .i64 gu) (.slice E6 m6 d6)
     have g1 := (hf5 rb ne2).trans G1.out
     have gw := (hf5 bw (fun e => LB.out.2.2.2.2.2.1 e.symm)).trans GW.out
     have hb5 : Below W.heap.size W w5 := by rw [hw5]; exact set7_below HBW.out LB.out.1 (.slice E0 m0 d0) (.slice E1 m1 d1) (.slice E2 m2 d2) (.slice E3 m3 d3) (.bool ma) (.int .i64 gu) (.slice E6 m6 d6)
     have hs5 : w5.heap.size = w4.heap.size := by rw [hw5]; exact set7_size w4 bx (.slice E0 m0 d0) (.slice E1 m1 d1) (.slice E2 m2 d2) (.slice E3 m3 d3) (.bool ma) (.int .i64 gu) (.slice E6 m6 d6)
     have HF5 := Aside0.mk hf5
     have HS5 := Aside0.mk hs5
     have HOK := Aside0.mk (show ∀ k, ((ok k ∧ k < W.heap.size) ∨ w3.heap.size ≤ k) → k ≠ bx ∧ k ≠ rb ∧ (ok k ∨ W.heap.size ≤ k) from fun k hk => by
      obtain ⟨l1, l2, l3, l4, l5, l6, l7, l8, l9⟩ := LB.out
      have l10 := HW13.out
      rcases hk with hk | hk
      ·exact ⟨by omega, by omega, Or.inl hk.1⟩
      ·exact ⟨by omega, by omega, Or.inr (by omega)⟩)
     unfold set7 at hw5
     rw [← hw5]
     clear hw5 hf5 hs5 k0 k1 k2 k3 k4 k5 k6 z0 z1 z2 z3 z4 z5 z6 y0 y1 r0 r1 r2 r3 r4 r5 r6 s0 s1 s2 s3 s4 s5 s6 G0 GW G1 HBW
     have HBW := Aside0.mk hb5
     obtain ⟨k0, k1, k2, k3, k4, k5, k6⟩ := cells7 g0
     obtain ⟨z0, z1, z2, z3, z4, z5, z6⟩ := froz7 g0
     have y0 : w5.cell? ⟨bw, 0, none⟩ = some (.int .i64 sys) := by rw [blk_cell gw]; rfl
     have y1 : w5.cell? ⟨bw, 1, none⟩ = some (.int .i64 ep) := by rw [blk_cell gw]; rfl
     obtain ⟨r0, r1, r2, r3, r4, r5, r6⟩ := cells7 g1
     obtain ⟨s0, s1, s2, s3, s4, s5, s6⟩ := froz7 g1
     have G0 := Aside0.mk g0
     have GW := Aside0.mk gw
     have G1 := Aside0.mk g1
     clear g0 gw g1
     clear hb5
     go_wp2_with fail
     have hbC := set7_below HBW.out LB.out.2.2.1 (.slice E0 m0 d0) (.slice E1 m1 d1) (.slice E2 m2 d2) (.slice E3 m3 d3) (.bool ma) (.int .i64 gu) (.slice E6 m6 d6)
     refine bodyPost_ret (results_ct rfl _ _ rb 31 #[.slice E0 m0 d0, .slice E1 m1 d1, .slice E2 m2 d2, .slice E3 m3 d3, .bool ma, .int .i64 gu, .slice E6 m6 d6] (0, 0) _ rfl (set7_blk G1.out (.slice E0 m0 d0) (.slice E1 m1 d1) (.slice E2 m2 d2) (.slice E3 m3 d3) (.bool ma) (.int .i64 gu) (.slice E6 m6 d6)) Try.underlying31 rfl (by kernel_rfl)) rfl ?_
     refine ⟨_, rfl, ?_, hbC⟩
     have hh := (HR4.out.step (fun k hk _ => (set7_far w5 rb (.slice E0 m0 d0) (.slice E1 m1 d1) (.slice E2 m2 d2) (.slice E3 m3 d3) (.bool ma) (.int .i64 gu) (.slice E6 m6 d6) k (HOK.out k hk).2.1).trans (HF5.out k (HOK.out k hk).1))).mono (fun k hk _ => (HOK.out k hk).2.2)
     rw [HS2.out] at hh
     exact hh
    | false =>
     rw [hb'] at HSY
     have hu : syncS S sys ep = (0, finishS (isOf sys) (List.replicate (useS S).2.pend.length 140) (useS S).2) := by rw [HSY.out]; simp
     rw [hu]
     have HUB := Aside0.mk hb'
     clear hu hb'
     go_enter Try.func29, Try.ntmps29
     go_wp2_with fail
     obtain ⟨w1, hw1⟩ : ∃ w1, w1 = ((W.alloc (.cells #[.slice A0 n0 c0, .slice A1 n1 c1, .slice A2 n2 c2, .slice A3 n3 c3, .bool false, .int .i64 fu, .slice A6 n6 c6] 31)).alloc (.cells #[.int .i64 sys, .int .i64 ep] 35)).alloc (.cells #[.slice none 0 0, .slice none 0 0, .slice none 0 0, .slice none 0 0, .bool false, .int .i64 0, .slice none 0 0] 31) := ⟨_, rfl⟩
     obtain ⟨g0, gw, g1, hb1⟩ := three W (.cells #[.slice A0 n0 c0, .slice A1 n1 c1, .slice A2 n2 c2, .slice A3 n3 c3, .bool false, .int .i64 fu, .slice A6 n6 c6] 31) (.cells #[.int .i64 sys, .int .i64 ep] 35) (.cells #[.slice none 0 0, .slice none 0 0, .slice none 0 0, .slice none 0 0, .bool false, .int .i64 0, .slice none 0 0] 31)
     rw [← hw1] at g0 gw g1 hb1 ⊢
     obtain ⟨bx, hbx⟩ : ∃ bx, bx = W.heap.size := ⟨_, rfl⟩
     obtain ⟨bw, hbw⟩ : ∃ bw, bw = W.heap.size + 1 := ⟨_, rfl⟩
     obtain ⟨rb, hrb⟩ : ∃ rb, rb = W.heap.size + 1 + 1 := ⟨_, rfl⟩
     rw [← hrb] at g1 ⊢
     rw [← hbw] at gw ⊢
     rw [show (Value.pointer (some ⟨W.heap.size, 0, none⟩)) = .pointer (some ⟨bx, 0, none⟩) by rw [hbx]]
     rw [← hbx] at g0
     have hs1 : w1.heap.size = W.heap.size + 1 + 1 + 1 := by rw [hw1]; simp
     have LB := Aside0.mk (show W.heap.size ≤ bx ∧ W.heap.size ≤ bw ∧ W.heap.size ≤ rb ∧ bx ≠ rb ∧ bw ≠ rb ∧ bx ≠ bw ∧ bx < w1.heap.size ∧ rb < w1.heap.size ∧ bw < w1.heap.size from ⟨by omega, by omega, by omega, by omega, by omega, by omega, by omega, by omega, by omega⟩)
     have ne1 : bx ≠ rb := LB.out.2.2.2.1
     have ne2 : rb ≠ bx := fun e => ne1 e.symm
     have HBW := Aside0.mk hb1
     obtain ⟨k0, k1, k2, k3, k4, k5, k6⟩ := cells7 g0
     obtain ⟨z0, z1, z2, z3, z4, z5, z6⟩ := froz7 g0
     have y0 : w1.cell? ⟨bw, 0, none⟩ = some (.int .i64 sys) := by rw [blk_cell gw]; rfl
     have y1 : w1.cell? ⟨bw, 1, none⟩ = some (.int .i64 ep) := by rw [blk_cell gw]; rfl
     obtain ⟨r0, r1, r2, r3, r4, r5, r6⟩ := cells7 g1
     obtain ⟨s0, s1, s2, s3, s4, s5, s6⟩ := froz7 g1
     have G0 := Aside0.mk g0
     have GW := Aside0.mk gw
     have G1 := Aside0.mk g1
     clear g0 gw g1
     clear hw1 hb1 hbx hbw hrb hs1
     refine (HWR.out w1).mono ?_
     rintro e w2 ⟨rfl, hb⟩
     have g0 := blk_below G0.out hb
     have gw := blk_below GW.out hb
     have g1 := blk_below G1.out hb
     have hbw := HBW.out.trans (hb.mono HBW.out.size)
     have SZ12 : w1.heap.size ≤ w2.heap.size := hb.size
     clear k0 k1 k2 k3 k4 k5 k6 z0 z1 z2 z3 z4 z5 z6 y0 y1 r0 r1 r2 r3 r4 r5 r6 s0 s1 s2 s3 s4 s5 s6 G0 GW G1 HBW
     have HBW := Aside0.mk hbw
     obtain ⟨k0, k1, k2, k3, k4, k5, k6⟩ := cells7 g0
     obtain ⟨z0, z1, z2, z3, z4, z5, z6⟩ := froz7 g0
     have y0 : w2.cell? ⟨bw, 0, none⟩ = some (.int .i64 sys) := by rw [blk_cell gw]; rfl
     have y1 : w2.cell? ⟨bw, 1, none⟩ = some (.int .i64 ep) := by rw [blk_cell gw]; rfl
     obtain ⟨r0, r1, r2, r3, r4, r5, r6⟩ := cells7 g1
     obtain ⟨s0, s1, s2, s3, s4, s5, s6⟩ := froz7 g1
     have G0 := Aside0.mk g0
     have GW := Aside0.mk gw
     have G1 := Aside0.mk g1
     clear g0 gw g1
     clear hb hbw
     go_wp2_with fail
     refine (HFC.out w2 HBW.out).mono ?_
     rintro e w3 ⟨rfl, hb⟩
     have g0 := blk_below G0.out hb
     have gw := blk_below GW.out hb
     have g1 := blk_below G1.out hb
     have hbw := HBW.out.trans (hb.mono HBW.out.size)
     have SZ23 : w2.heap.size ≤ w3.heap.size := hb.size
     clear k0 k1 k2 k3 k4 k5 k6 z0 z1 z2 z3 z4 z5 z6 y0 y1 r0 r1 r2 r3 r4 r5 r6 s0 s1 s2 s3 s4 s5 s6 G0 GW G1 HBW
     have HBW := Aside0.mk hbw
     obtain ⟨k0, k1, k2, k3, k4, k5, k6⟩ := cells7 g0
     obtain ⟨z0, z1, z2, z3, z4, z5, z6⟩ := froz7 g0
     have y0 : w3.cell? ⟨bw, 0, none⟩ = some (.int .i64 sys) := by rw [blk_cell gw]; rfl
     have y1 : w3.cell? ⟨bw, 1, none⟩ = some (.int .i64 ep) := by rw [blk_cell gw]; rfl
     obtain ⟨r0, r1, r2, r3, r4, r5, r6⟩ := cells7 g1
     obtain ⟨s0, s1, s2, s3, s4, s5, s6⟩ := froz7 g1
     have G0 := Aside0.mk g0
     have GW := Aside0.mk gw
     have G1 := Aside0.mk g1
     clear g0 gw g1
     clear hb hbw
     have SZ13 : w1.heap.size ≤ w3.heap.size := Nat.le_trans SZ12 SZ23
     go_wp2_with fail
     refine (use_ref (ok := fun k => ok k ∧ k < W.heap.size) ((HR.out.mono (ok' := fun k => ok k ∧ k < W.heap.size) (fun k hk hlt => ⟨hk, hlt⟩)).below HBW.out) HG.out hk).mono ?_
     rintro e w4 ⟨v4, rfl, hR4, hb⟩
     rw [HUB.out]
     have HW13 := Aside0.mk (show w1.heap.size ≤ w3.heap.size from SZ13)
     obtain ⟨E0, E1, E2, E3, E6, d0, d1, d2, d3, d6, gl, gu, gs, hRC⟩ := hR4.open_
     obtain rfl := hRC.hv
     obtain ⟨S2, hS2⟩ : ∃ S2, S2 = (useS S).2 := ⟨_, rfl⟩
     rw [← hS2] at hR4 ⊢
     have HS2 := Aside0.mk hS2
     clear hS2
     obtain ⟨m0, hm0⟩ : ∃ m, m = S2.stable.length := ⟨_, rfl⟩
     obtain ⟨m1, hm1⟩ : ∃ m, m = S2.old.length := ⟨_, rfl⟩
     obtain ⟨m2, hm2⟩ : ∃ m, m = S2.pend.length := ⟨_, rfl⟩
     obtain ⟨m3, hm3⟩ : ∃ m, m = gl.length := ⟨_, rfl⟩
     obtain ⟨m6, hm6⟩ : ∃ m, m = gs.length := ⟨_, rfl⟩
     obtain ⟨ma, hma⟩ : ∃ m, m = S2.failed := ⟨_, rfl⟩
     rw [← hm0, ← hm1, ← hm2, ← hm3, ← hm6, ← hma]
     rw [← hm0, ← hm1, ← hm2, ← hm3, ← hm6, ← hma] at hR4
     have HR4 := Aside0.mk hR4
     clear hRC hm0 hm1 hm2 hm3 hm6 hma hR4
     have g0 := blk_below G0.out hb
     have gw := blk_below GW.out hb
     have g1 := blk_below G1.out hb
     have hbw := HBW.out.trans (hb.mono HBW.out.size)
     have SZ34 : w3.heap.size ≤ w4.heap.size := hb.size
     clear k0 k1 k2 k3 k4 k5 k6 z0 z1 z2 z3 z4 z5 z6 y0 y1 r0 r1 r2 r3 r4 r5 r6 s0 s1 s2 s3 s4 s5 s6 G0 GW G1 HBW
     have HBW := Aside0.mk hbw
     obtain ⟨k0, k1, k2, k3, k4, k5, k6⟩ := cells7 g0
     obtain ⟨z0, z1, z2, z3, z4, z5, z6⟩ := froz7 g0
     have y0 : w4.cell? ⟨bw, 0, none⟩ = some (.int .i64 sys) := by rw [blk_cell gw]; rfl
     have y1 : w4.cell? ⟨bw, 1, none⟩ = some (.int .i64 ep) := by rw [blk_cell gw]; rfl
     obtain ⟨r0, r1, r2, r3, r4, r5, r6⟩ := cells7 g1
     obtain ⟨s0, s1, s2, s3, s4, s5, s6⟩ := froz7 g1
     have G0 := Aside0.mk g0
     have GW := Aside0.mk gw
     have G1 := Aside0.mk g1
     clear g0 gw g1
     clear hb hbw
     go_upto_region 8 with (fail)
     obtain ⟨w5, hw5⟩ : ∃ w5, w5 = set7 w4 bx (.slice E0 m0 d0) (.slice E1 m1 d1) (.slice E2 m2 d2) (.slice E3 m3 d3) (.bool ma) (.int .i64 gu) (.slice E6 m6 d6) := ⟨_, rfl⟩
     have hf5 : ∀ k, k ≠ bx → w5.heap[k]? = w4.heap[k]? := fun k hk => by rw [hw5]; exact set7_far w4 bx (.slice E0 m0 d0) (.slice E1 m1 d1) (.slice E2 m2 d2) (.slice E3 m3 d3) (.bool ma) (.int .i64 gu) (.slice E6 m6 d6) k hk
     have g0 : w5.heap[bx]? = some (.cells #[.slice E0 m0 d0, .slice E1 m1 d1, .slice E2 m2 d2, .slice E3 m3 d3, .bool ma, .int .i64 gu, .slice E6 m6 d6] 31 (0, 0)) := by rw [hw5]; exact set7_blk G0.out (.slice E0 m0 d0) (.slice E1 m1 d1) (.slice E2 m2 d2) (.slice E3 m3 d3) (.bool ma) (.int .i64 gu) (.slice E6 m6 d6)
     have g1 := (hf5 rb ne2).trans G1.out
     have gw := (hf5 bw (fun e => LB.out.2.2.2.2.2.1 e.symm)).trans GW.out
     have hb5 : Below W.heap.size W w5 := by rw [hw5]; exact set7_below HBW.out LB.out.1 (.slice E0 m0 d0) (.slice E1 m1 d1) (.slice E2 m2 d2) (.slice E3 m3 d3) (.bool ma) (.int .i64 gu) (.slice E6 m6 d6)
     have hs5 : w5.heap.size = w4.heap.size := by rw [hw5]; exact set7_size w4 bx (.slice E0 m0 d0) (.slice E1 m1 d1) (.slice E2 m2 d2) (.slice E3 m3 d3) (.bool ma) (.int .i64 gu) (.slice E6 m6 d6)
     have HF5 := Aside0.mk hf5
     have HS5 := Aside0.mk hs5
     have HOK := Aside0.mk (show ∀ k, ((ok k ∧ k < W.heap.size) ∨ w3.heap.size ≤ k) → k ≠ bx ∧ k ≠ rb ∧ (ok k ∨ W.heap.size ≤ k) from fun k hk => by
      obtain ⟨l1, l2, l3, l4, l5, l6, l7, l8, l9⟩ := LB.out
      have l10 := HW13.out
      rcases hk with hk | hk
      ·exact ⟨by omega, by omega, Or.inl hk.1⟩
      ·exact ⟨by omega, by omega, Or.inr (by omega)⟩)
     unfold set7 at hw5
     rw [← hw5]
     clear hw5 hf5 hs5 k0 k1 k2 k3 k4 k5 k6 z0 z1 z2 z3 z4 z5 z6 y0 y1 r0 r1 r2 r3 r4 r5 r6 s0 s1 s2 s3 s4 s5 s6 G0 GW G1 HBW
     have HBW := Aside0.mk hb5
     obtain ⟨k0, k1, k2, k3, k4, k5, k6⟩ := cells7 g0
     obtain ⟨z0, z1, z2, z3, z4, z5, z6⟩ := froz7 g0
     have y0 : w5.cell? ⟨bw, 0, none⟩ = some (.int .i64 sys) := by rw [blk_cell gw]; rfl
     have y1 : w5.cell? ⟨bw, 1, none⟩ = some (.int .i64 ep) := by rw [blk_cell gw]; rfl
     obtain ⟨r0, r1, r2, r3, r4, r5, r6⟩ := cells7 g1
     obtain ⟨s0, s1, s2, s3, s4, s5, s6⟩ := froz7 g1
     have G0 := Aside0.mk g0
     have GW := Aside0.mk gw
     have G1 := Aside0.mk g1
     clear g0 gw g1
     clear hb5
     go_wp2_with fail
     have hR5 := HR4.out.step (W1 := w5) (fun k hk _ => HF5.out k (HOK.out k hk).1)
     have hend := end_ref hR5 (by rw [HS2.out]; exact HGU.out.fine) hk (isOf sys) sys (fun w => by have h1 := HBO.out.1; have h2 : decide (sys = 0) = false := decide_eq_false (by omega); rw [h2, Bool.false_or]; rfl) none 0 [] (List.replicate S2.pend.length 140) (Kd.C_nil _ _) (Nat.le_refl _) (by decide) true (fun _ => rfl) (fun k hk => by unfold numB bytesAt; rw [List.getElem?_replicate, if_pos hk, if_pos rfl]; rfl)
     have HEND := Aside0.mk (show Calls Try.prog 30 #[.agg #[.slice E0 m0 d0, .slice E1 m1 d1, .slice E2 m2 d2, .slice E3 m3 d3, .bool ma, .int .i64 gu, .slice E6 m6 d6], .int .i64 sys, .slice none 0 0, .bool true] w5 fun e W' => RChPost (fun k => (ok k ∧ k < W.heap.size) ∨ w3.heap.size ≤ k) (finishS (isOf sys) (List.replicate S2.pend.length 140) S2) w5 e W' from hend)
     clear hR5 hend
     refine HEND.out.mono ?_
     rintro e w6 ⟨v6, rfl, hR6, hb⟩
     obtain ⟨X0, X1, X2, X3, X6, b0, b1, b2, b3, b6, xl, xu, xs, hRX⟩ := hR6.open_
     obtain rfl := hRX.hv
     obtain ⟨S3, hS3⟩ : ∃ S3, S3 = finishS (isOf sys) (List.replicate S2.pend.length 140) S2 := ⟨_, rfl⟩
     rw [← hS3] at hR6
     rw [← hS3]
     have HS3 := Aside0.mk hS3
     have HR6 := Aside0.mk hR6
     clear hRX hR6 hS3
     have g0 := blk_below G0.out hb
     have gw := blk_below GW.out hb
     have g1 := blk_below G1.out hb
     have hbw := HBW.out.trans (hb.mono HBW.out.size)
     have SZ56 : w5.heap.size ≤ w6.heap.size := hb.size
     clear k0 k1 k2 k3 k4 k5 k6 z0 z1 z2 z3 z4 z5 z6 y0 y1 r0 r1 r2 r3 r4 r5 r6 s0 s1 s2 s3 s4 s5 s6 G0 GW G1 HBW
     have HBW := Aside0.mk hbw
     obtain ⟨k0, k1, k2, k3, k4, k5, k6⟩ := cells7 g0
     obtain ⟨z0, z1, z2, z3, z4, z5, z6⟩ := froz7 g0
     have y0 : w6.cell? ⟨bw, 0, none⟩ = some (.int .i64 sys) := by rw [blk_cell gw]; rfl
     have y1 : w6.cell? ⟨bw, 1, none⟩ = some (.int .i64 ep) := by rw [blk_cell gw]; rfl
     obtain ⟨r0, r1, r2, r3, r4, r5, r6⟩ := cells7 g1
     obtain ⟨s0, s1, s2, s3, s4, s5, s6⟩ := froz7 g1
     have G0 := Aside0.mk g0
     have GW := Aside0.mk gw
     have G1 := Aside0.mk g1
     clear g0 gw g1
     clear hb hbw
     go_wp2_with fail
     have hbC := set7_below HBW.out LB.out.2.2.1 (.slice X0 S3.stable.length b0) (.slice X1 S3.old.length b1) (.slice X2 S3.pend.length b2) (.slice X3 xl.length b3) (.bool S3.failed) (.int .i64 xu) (.slice X6 xs.length b6)
     refine bodyPost_ret (results_ct rfl _ _ rb 31 #[.slice X0 S3.stable.length b0, .slice X1 S3.old.length b1, .slice X2 S3.pend.length b2, .slice X3 xl.length b3, .bool S3.failed, .int .i64 xu, .slice X6 xs.length b6] (0, 0) _ rfl (set7_blk G1.out (.slice X0 S3.stable.length b0) (.slice X1 S3.old.length b1) (.slice X2 S3.pend.length b2) (.slice X3 xl.length b3) (.bool S3.failed) (.int .i64 xu) (.slice X6 xs.length b6)) Try.underlying31 rfl (by kernel_rfl)) rfl ?_
     refine ⟨_, rfl, ?_, hbC⟩
     have hh := (HR6.out.step (fun k hk _ => set7_far w6 rb (.slice X0 S3.stable.length b0) (.slice X1 S3.old.length b1) (.slice X2 S3.pend.length b2) (.slice X3 xl.length b3) (.bool S3.failed) (.int .i64 xu) (.slice X6 xs.length b6) k (hk.elim (fun hk => (HOK.out k hk).2.1) (fun hk => by have h1 := LB.out.2.2.2.2.2.2.2.1; have h2 := HW13.out; have h3 := HS5.out; have h4 : w3.heap.size ≤ w4.heap.size := SZ34; omega)))).mono (ok' := fun k => ok k ∨ W.heap.size ≤ k) (fun k hk _ => hk.elim (fun hk => (HOK.out k hk).2.2) (fun hk => Or.inr (by have h1 := LB.out.2.2.2.2.2.2.2.1; have h2 := HW13.out; have h3 := HS5.out; have h4 : w3.heap.size ≤ w4.heap.size := SZ34; have h5 := LB.out.1; have h6 := LB.out.2.2.2.2.2.2.1; omega)))
     show RefIs _ _ _ (finishS (isOf sys) (List.replicate (useS S).2.pend.length 140) (useS S).2)
     rw [← HS2.out, ← HS3.out]
     exact hh
end
end Go.Proofs.Ytflajmgichdhhaa.PG
namespace Go.Proofs.Ytflajmgichdhhaa.PG
open Go.RowKit Go.Proofs.YtflajmgichdhhaaW.PrintWords Go.Proofs.YtflajmgichdhhaaW.PrintLast Go.Proofs.YtflajmgichdhhaaW.PrintMore
set_option linter.unusedVariables false
set_option linter.unusedSimpArgs false
theorem one99 {w : World} {g : Nat} {x : S99} (hb : w.heap[g]? = some (.cells #[.int .i64 x.f0, .int .i64 x.f1, .string x.f2] 99 (0, 0))) : Kd.C k99 w (some ⟨g, 0, none⟩) 1 [x] := by
 refine ⟨rfl, by decide, fun _ => ⟨_, rfl, fun j p hj => ?_⟩⟩
 cases j with
 | succ j => simp at hj
 | zero =>
  cases hj
  refine ⟨_, rfl, k99_mk w x, fun q u hu => ?_⟩
  have : Addr.add ⟨g, 0, none⟩ (0 * k99.sz + q) = ⟨g, q, none⟩ := by simp [Addr.add]; intro hz; exact hz.symm
  rw [this, blk_cell hb]
  simpa using hu
section
variable {W : World} {ok : Nat → Prop} {v : Value} {S : DevS}
set_option maxRecDepth 100000 in
set_option maxHeartbeats 4000000 in
theorem dowrite_ref {k : Nat} (hR : RefIs W ok v S) (hG : Good k S) (hk : k ≤ 1000000) (sys ep sec : Int) (d : ByteArray) : Calls Try.prog 28 #[v, .agg #[.int .i64 sys, .int .i64 ep], .int .i64 sec, .string d] W fun e W' => RPost2 ok (writeS S sys ep sec d).1 (writeS S sys ep sec d).2 W e W' := by
 have HG := Aside0.mk hG
 clear hG
 obtain ⟨v0, v1, v2, v3, v6, fl, fu, sv, hA⟩ := id hR
 obtain rfl := hA.hv
 obtain ⟨A0, c0, e0, hl0, hF0⟩ := hA.h0
 obtain ⟨A1, c1, e1, hl1, hF1⟩ := hA.h1
 obtain ⟨A2, c2, e2, hl2, hF2⟩ := hA.h2
 obtain ⟨A3, c3, e3, hl3, hF3⟩ := hA.h3
 obtain ⟨A6, c6, e6, hl6, hF6⟩ := hA.h6
 subst e0 e1 e2 e3 e6
 have HR := Aside0.mk hR
 have HA := Aside0.mk hA
 have HF0 := Aside0.mk hF0
 have HF1 := Aside0.mk hF1
 have HF2 := Aside0.mk hF2
 have HF3 := Aside0.mk hF3
 obtain ⟨n0, hn0⟩ : ∃ n0, n0 = S.stable.length := ⟨_, rfl⟩
 obtain ⟨n1, hn1⟩ : ∃ n1, n1 = S.old.length := ⟨_, rfl⟩
 obtain ⟨n2, hn2⟩ : ∃ n2, n2 = S.pend.length := ⟨_, rfl⟩
 obtain ⟨n3, hn3⟩ : ∃ n3, n3 = fl.length := ⟨_, rfl⟩
 obtain ⟨n6, hn6⟩ : ∃ n6, n6 = sv.length := ⟨_, rfl⟩
 obtain ⟨fa, hfa⟩ : ∃ fa, fa = S.failed := ⟨_, rfl⟩
 have EQ := Aside0.mk (show n0 = S.stable.length ∧ n1 = S.old.length ∧ n2 = S.pend.length ∧ n3 = fl.length ∧ n6 = sv.length ∧ fa = S.failed from ⟨hn0, hn1, hn2, hn3, hn6, hfa⟩)
 rw [← hn0, ← hn1, ← hn2, ← hn3, ← hn6, ← hfa]
 rw [← hn0, ← hn1, ← hn2, ← hn3, ← hn6, ← hfa] at HR
 clear hR hA hF0 hF1 hF2 hF3 hF6 hl0 hl1 hl2 hl3 hl6 hn0 hn1 hn2 hn3 hn6 hfa
 have HT := Aside0.mk (fun (w : World) => show Calls Try.prog 54 #[.agg #[.slice A0 n0 c0, .slice A1 n1 c1, .slice A2 n2 c2, .slice A3 n3 c3, .bool fa, .int .i64 fu, .slice A6 n6 c6], .int .i64 sec] w fun e W' => e = .returned (.bool (decide (0 ≤ sec ∧ sec < (n0 : Int)))) ∧ Below w.heap.size w W' from there_ref w sec)
 have HEQ0 := Aside0.mk (show n0 = S.stable.length from EQ.out.1)
 unfold RPost2
 cases hpb : plainB sys ep with
 | false =>
  have hu : writeS S sys ep sec d = (1, S) := by unfold writeS; rw [hpb, if_neg (fun z => by cases z.1)]
  rw [hu]
  have HWR := Aside0.mk (fun w => dasdref03_writer.calls sys ep false w (by rw [writer_f, hpb]))
  clear hu hpb
  go_enter Try.func28, Try.ntmps28
  go_wp2_with fail
  obtain ⟨w1, hw1⟩ : ∃ w1, w1 = ((W.alloc (.cells #[.slice A0 n0 c0, .slice A1 n1 c1, .slice A2 n2 c2, .slice A3 n3 c3, .bool fa, .int .i64 fu, .slice A6 n6 c6] 31)).alloc (.cells #[.int .i64 sys, .int .i64 ep] 35)).alloc (.cells #[.slice none 0 0, .slice none 0 0, .slice none 0 0, .slice none 0 0, .bool false, .int .i64 0, .slice none 0 0] 31) := ⟨_, rfl⟩
  obtain ⟨g0, gw, g1, hb1⟩ := three W (.cells #[.slice A0 n0 c0, .slice A1 n1 c1, .slice A2 n2 c2, .slice A3 n3 c3, .bool fa, .int .i64 fu, .slice A6 n6 c6] 31) (.cells #[.int .i64 sys, .int .i64 ep] 35) (.cells #[.slice none 0 0, .slice none 0 0, .slice none 0 0, .slice none 0 0, .bool false, .int .i64 0, .slice none 0 0] 31)
  rw [← hw1] at g0 gw g1 hb1 ⊢
  obtain ⟨bx, hbx⟩ : ∃ bx, bx = W.heap.size := ⟨_, rfl⟩
  obtain ⟨bw, hbw⟩ : ∃ bw, bw = W.heap.size + 1 := ⟨_, rfl⟩
  obtain ⟨rb, hrb⟩ : ∃ rb, rb = W.heap.size + 1 + 1 := ⟨_, rfl⟩
  rw [← hrb] at g1 ⊢
  rw [← hbw] at gw ⊢
  rw [show (Value.pointer (some ⟨W.heap.size, 0, none⟩)) = .pointer (some ⟨bx, 0, none⟩) by rw [hbx]]
  rw [← hbx] at g0
  have hs1 : w1.heap.size = W.heap.size + 1 + 1 + 1 := by rw [hw1]; simp
  have LB := Aside0.mk (show W.heap.size ≤ bx ∧ W.heap.size ≤ bw ∧ W.heap.size ≤ rb ∧ bx ≠ rb ∧ bw ≠ rb ∧ bx ≠ bw ∧ bx < w1.heap.size ∧ rb < w1.heap.size ∧ bw < w1.heap.size from ⟨by omega, by omega, by omega, by omega, by omega, by omega, by omega, by omega, by omega⟩)
  have ne1 : bx ≠ rb := LB.out.2.2.2.1
  have ne2 : rb ≠ bx := fun e => ne1 e.symm
  have HBW := Aside0.mk hb1
  obtain ⟨k0, k1, k2, k3, k4, k5, k6⟩ := cells7 g0
  obtain ⟨z0, z1, z2, z3, z4, z5, z6⟩ := froz7 g0
  have y0 : w1.cell? ⟨bw, 0, none⟩ = some (.int .i64 sys) := by rw [blk_cell gw]; rfl
  have y1 : w1.cell? ⟨bw, 1, none⟩ = some (.int .i64 ep) := by rw [blk_cell gw]; rfl
  obtain ⟨r0, r1, r2, r3, r4, r5, r6⟩ := cells7 g1
  obtain ⟨s0, s1, s2, s3, s4, s5, s6⟩ := froz7 g1
  have G0 := Aside0.mk g0
  have GW := Aside0.mk gw
  have G1 := Aside0.mk g1
  clear g0 gw g1
  clear hw1 hb1 hbx hbw hrb hs1
  refine (HWR.out w1).mono ?_
  rintro e w2 ⟨rfl, hb⟩
  have g0 := blk_below G0.out hb
  have gw := blk_below GW.out hb
  have g1 := blk_below G1.out hb
  have hbw := HBW.out.trans (hb.mono HBW.out.size)
  have SZ12 : w1.heap.size ≤ w2.heap.size := hb.size
  clear k0 k1 k2 k3 k4 k5 k6 z0 z1 z2 z3 z4 z5 z6 y0 y1 r0 r1 r2 r3 r4 r5 r6 s0 s1 s2 s3 s4 s5 s6 G0 GW G1 HBW
  have HBW := Aside0.mk hbw
  obtain ⟨k0, k1, k2, k3, k4, k5, k6⟩ := cells7 g0
  obtain ⟨z0, z1, z2, z3, z4, z5, z6⟩ := froz7 g0
  have y0 : w2.cell? ⟨bw, 0, none⟩ = some (.int .i64 sys) := by rw [blk_cell gw]; rfl
  have y1 : w2.cell? ⟨bw, 1, none⟩ = some (.int .i64 ep) := by rw [blk_cell gw]; rfl
  obtain ⟨r0, r1, r2, r3, r4, r5, r6⟩ := cells7 g1
  obtain ⟨s0, s1, s2, s3, s4, s5, s6⟩ := froz7 g1
  have G0 := Aside0.mk g0
  have GW := Aside0.mk gw
  have G1 := Aside0.mk g1
  clear g0 gw g1
  clear hb hbw
  go_wp2_with fail
  have hbC := set7_below HBW.out LB.out.2.2.1 (.slice A0 n0 c0) (.slice A1 n1 c1) (.slice A2 n2 c2) (.slice A3 n3 c3) (.bool fa) (.int .i64 fu) (.slice A6 n6 c6)
  refine bodyPost_ret (results_ct rfl _ _ rb 31 #[.slice A0 n0 c0, .slice A1 n1 c1, .slice A2 n2 c2, .slice A3 n3 c3, .bool fa, .int .i64 fu, .slice A6 n6 c6] (0, 0) _ rfl (set7_blk G1.out (.slice A0 n0 c0) (.slice A1 n1 c1) (.slice A2 n2 c2) (.slice A3 n3 c3) (.bool fa) (.int .i64 fu) (.slice A6 n6 c6)) Try.underlying31 rfl (by kernel_rfl)) rfl ?_
  refine ⟨_, rfl, ?_, hbC⟩
  exact (HR.out.below hbC).mono (fun k hk _ => Or.inl hk)
 | true =>
  have hbo : 1 ≤ sys ∧ sys ≤ 4 ∧ 0 ≤ ep ∧ ep ≤ 1099511627776 := of_decide_eq_true hpb
  have HWR := Aside0.mk (fun w => dasdref03_writer.calls sys ep true w (by rw [writer_f, hpb]))
  have HPB := Aside0.mk hpb
  have HBO := Aside0.mk hbo
  have EFA := Aside0.mk (show S.failed = fa from EQ.out.2.2.2.2.2.symm)
  clear hpb hbo
  by_cases hd : d.size = 140
  ·have hd2 : ((d.size : Int) != 140) = false := by rw [hd]; rfl
   by_cases hin : 0 ≤ sec ∧ sec < (n0 : Int)
   ·rw [decide_eq_true hin] at HT
    have HSY := Aside0.mk (show writeS S sys ep sec d = (if (admitS S sys ep).1 = 0 then (0, pushS (admitS S sys ep).2 ⟨sys, sec, d⟩) else admitS S sys ep) by unfold writeS; rw [if_pos ⟨HPB.out, hd⟩, if_pos ⟨hin.1, by rw [← HEQ0.out]; exact hin.2⟩])
    clear hd hin
    cases fa with
    | true =>
     have hu : writeS S sys ep sec d = (10, S) := by
      have ha : admitS S sys ep = (10, S) := by unfold admitS; rw [if_pos EFA.out]
      rw [HSY.out, ha, if_neg (by show ¬ (10 : Int) = 0; decide)]
     rw [hu]
     clear hu
     go_enter Try.func28, Try.ntmps28
     go_wp2_with fail
     obtain ⟨w1, hw1⟩ : ∃ w1, w1 = ((W.alloc (.cells #[.slice A0 n0 c0, .slice A1 n1 c1, .slice A2 n2 c2, .slice A3 n3 c3, .bool true, .int .i64 fu, .slice A6 n6 c6] 31)).alloc (.cells #[.int .i64 sys, .int .i64 ep] 35)).alloc (.cells #[.slice none 0 0, .slice none 0 0, .slice none 0 0, .slice none 0 0, .bool false, .int .i64 0, .slice none 0 0] 31) := ⟨_, rfl⟩
     obtain ⟨g0, gw, g1, hb1⟩ := three W (.cells #[.slice A0 n0 c0, .slice A1 n1 c1, .slice A2 n2 c2, .slice A3 n3 c3, .bool true, .int .i64 fu, .slice A6 n6 c6] 31) (.cells #[.int .i64 sys, .int .i64 ep] 35) (.cells #[.slice none 0 0, .slice none 0 0, .slice none 0 0, .slice none 0 0, .bool false, .int .i64 0, .slice none 0 0] 31)
     rw [← hw1] at g0 gw g1 hb1 ⊢
     obtain ⟨bx, hbx⟩ : ∃ bx, bx = W.heap.size := ⟨_, rfl⟩
     obtain ⟨bw, hbw⟩ : ∃ bw, bw = W.heap.size + 1 := ⟨_, rfl⟩
     obtain ⟨rb, hrb⟩ : ∃ rb, rb = W.heap.size + 1 + 1 := ⟨_, rfl⟩
     rw [← hrb] at g1 ⊢
     rw [← hbw] at gw ⊢
     rw [show (Value.pointer (some ⟨W.heap.size, 0, none⟩)) = .pointer (some ⟨bx, 0, none⟩) by rw [hbx]]
     rw [← hbx] at g0
     have hs1 : w1.heap.size = W.heap.size + 1 + 1 + 1 := by rw [hw1]; simp
     have LB := Aside0.mk (show W.heap.size ≤ bx ∧ W.heap.size ≤ bw ∧ W.heap.size ≤ rb ∧ bx ≠ rb ∧ bw ≠ rb ∧ bx ≠ bw ∧ bx < w1.heap.size ∧ rb < w1.heap.size ∧ bw < w1.heap.size from ⟨by omega, by omega, by omega, by omega, by omega, by omega, by omega, by omega, by omega⟩)
     have ne1 : bx ≠ rb := LB.out.2.2.2.1
     have ne2 : rb ≠ bx := fun e => ne1 e.symm
     have HBW := Aside0.mk hb1
     obtain ⟨k0, k1, k2, k3, k4, k5, k6⟩ := cells7 g0
     obtain ⟨z0, z1, z2, z3, z4, z5, z6⟩ := froz7 g0
     have y0 : w1.cell? ⟨bw, 0, none⟩ = some (.int .i64 sys) := by rw [blk_cell gw]; rfl
     have y1 : w1.cell? ⟨bw, 1, none⟩ = some (.int .i64 ep) := by rw [blk_cell gw]; rfl
     obtain ⟨r0, r1, r2, r3, r4, r5, r6⟩ := cells7 g1
     obtain ⟨s0, s1, s2, s3, s4, s5, s6⟩ := froz7 g1
     have G0 := Aside0.mk g0
     have GW := Aside0.mk gw
     have G1 := Aside0.mk g1
     clear g0 gw g1
     clear hw1 hb1 hbx hbw hrb hs1
     refine (HWR.out w1).mono ?_
     rintro e w2 ⟨rfl, hb⟩
     have g0 := blk_below G0.out hb
     have gw := blk_below GW.out hb
     have g1 := blk_below G1.out hb
     have hbw := HBW.out.trans (hb.mono HBW.out.size)
     have SZ12 : w1.heap.size ≤ w2.heap.size := hb.size
     clear k0 k1 k2 k3 k4 k5 k6 z0 z1 z2 z3 z4 z5 z6 y0 y1 r0 r1 r2 r3 r4 r5 r6 s0 s1 s2 s3 s4 s5 s6 G0 GW G1 HBW
     have HBW := Aside0.mk hbw
     obtain ⟨k0, k1, k2, k3, k4, k5, k6⟩ := cells7 g0
     obtain ⟨z0, z1, z2, z3, z4, z5, z6⟩ := froz7 g0
     have y0 : w2.cell? ⟨bw, 0, none⟩ = some (.int .i64 sys) := by rw [blk_cell gw]; rfl
     have y1 : w2.cell? ⟨bw, 1, none⟩ = some (.int .i64 ep) := by rw [blk_cell gw]; rfl
     obtain ⟨r0, r1, r2, r3, r4, r5, r6⟩ := cells7 g1
     obtain ⟨s0, s1, s2, s3, s4, s5, s6⟩ := froz7 g1
     have G0 := Aside0.mk g0
     have GW := Aside0.mk gw
     have G1 := Aside0.mk g1
     clear g0 gw g1
     clear hb hbw
     go_wp2_with fail
     refine (HT.out w2).mono ?_
     rintro e w3 ⟨rfl, hb⟩
     have g0 := blk_below G0.out hb
     have gw := blk_below GW.out hb
     have g1 := blk_below G1.out hb
     have hbw := HBW.out.trans (hb.mono HBW.out.size)
     have SZ23 : w2.heap.size ≤ w3.heap.size := hb.size
     clear k0 k1 k2 k3 k4 k5 k6 z0 z1 z2 z3 z4 z5 z6 y0 y1 r0 r1 r2 r3 r4 r5 r6 s0 s1 s2 s3 s4 s5 s6 G0 GW G1 HBW
     have HBW := Aside0.mk hbw
     obtain ⟨k0, k1, k2, k3, k4, k5, k6⟩ := cells7 g0
     obtain ⟨z0, z1, z2, z3, z4, z5, z6⟩ := froz7 g0
     have y0 : w3.cell? ⟨bw, 0, none⟩ = some (.int .i64 sys) := by rw [blk_cell gw]; rfl
     have y1 : w3.cell? ⟨bw, 1, none⟩ = some (.int .i64 ep) := by rw [blk_cell gw]; rfl
     obtain ⟨r0, r1, r2, r3, r4, r5, r6⟩ := cells7 g1
     obtain ⟨s0, s1, s2, s3, s4, s5, s6⟩ := froz7 g1
     have G0 := Aside0.mk g0
     have GW := Aside0.mk gw
     have G1 := Aside0.mk g1
     clear g0 gw g1
     clear hb hbw
     go_wp2_with fail
     have hbC := set7_below HBW.out LB.out.2.2.1 (.slice A0 n0 c0) (.slice A1 n1 c1) (.slice A2 n2 c2) (.slice A3 n3 c3) (.bool true) (.int .i64 fu) (.slice A6 n6 c6)
     refine bodyPost_ret (results_ct rfl _ _ rb 31 #[.slice A0 n0 c0, .slice A1 n1 c1, .slice A2 n2 c2, .slice A3 n3 c3, .bool true, .int .i64 fu, .slice A6 n6 c6] (0, 0) _ rfl (set7_blk G1.out (.slice A0 n0 c0) (.slice A1 n1 c1) (.slice A2 n2 c2) (.slice A3 n3 c3) (.bool true) (.int .i64 fu) (.slice A6 n6 c6)) Try.underlying31 rfl (by kernel_rfl)) rfl ?_
     refine ⟨_, rfl, ?_, hbC⟩
     exact (HR.out.below hbC).mono (fun k hk _ => Or.inl hk)
    | false =>
     have HFC := Aside0.mk (fun (w : World) (hb : Below W.heap.size W w) => fenced_ref (HR.out.below hb) sys ep HBO.out.1 HBO.out.2.1 HBO.out.2.2.1 HBO.out.2.2.2)
     cases hfe : fencedS S sys ep with
     | true =>
      have hu : writeS S sys ep sec d = (13, S) := by
       have ha : admitS S sys ep = (13, S) := by unfold admitS; rw [if_neg (by rw [EFA.out]; simp), if_pos hfe]
       rw [HSY.out, ha, if_neg (by show ¬ (13 : Int) = 0; decide)]
      rw [hu]
      rw [hfe] at HFC
      clear hu hfe
      go_enter Try.func28, Try.ntmps28
      go_wp2_with fail
      obtain ⟨w1, hw1⟩ : ∃ w1, w1 = ((W.alloc (.cells #[.slice A0 n0 c0, .slice A1 n1 c1, .slice A2 n2 c2, .slice A3 n3 c3, .bool false, .int .i64 fu, .slice A6 n6 c6] 31)).alloc (.cells #[.int .i64 sys, .int .i64 ep] 35)).alloc (.cells #[.slice none 0 0, .slice none 0 0, .slice none 0 0, .slice none 0 0, .bool false, .int .i64 0, .slice none 0 0] 31) := ⟨_, rfl⟩
      obtain ⟨g0, gw, g1, hb1⟩ := three W (.cells #[.slice A0 n0 c0, .slice A1 n1 c1, .slice A2 n2 c2, .slice A3 n3 c3, .bool false, .int .i64 fu, .slice A6 n6 c6] 31) (.cells #[.int .i64 sys, .int .i64 ep] 35) (.cells #[.slice none 0 0, .slice none 0 0, .slice none 0 0, .slice none 0 0, .bool false, .int .i64 0, .slice none 0 0] 31)
      rw [← hw1] at g0 gw g1 hb1 ⊢
      obtain ⟨bx, hbx⟩ : ∃ bx, bx = W.heap.size := ⟨_, rfl⟩
      obtain ⟨bw, hbw⟩ : ∃ bw, bw = W.heap.size + 1 := ⟨_, rfl⟩
      obtain ⟨rb, hrb⟩ : ∃ rb, rb = W.heap.size + 1 + 1 := ⟨_, rfl⟩
      rw [← hrb] at g1 ⊢
      rw [← hbw] at gw ⊢
      rw [show (Value.pointer (some ⟨W.heap.size, 0, none⟩)) = .pointer (some ⟨bx, 0, none⟩) by rw [hbx]]
      rw [← hbx] at g0
      have hs1 : w1.heap.size = W.heap.size + 1 + 1 + 1 := by rw [hw1]; simp
      have LB := Aside0.mk (show W.heap.size ≤ bx ∧ W.heap.size ≤ bw ∧ W.heap.size ≤ rb ∧ bx ≠ rb ∧ bw ≠ rb ∧ bx ≠ bw ∧ bx < w1.heap.size ∧ rb < w1.heap.size ∧ bw < w1.heap.size from ⟨by omega, by omega, by omega, by omega, by omega, by omega, by omega, by omega, by omega⟩)
      have ne1 : bx ≠ rb := LB.out.2.2.2.1
      have ne2 : rb ≠ bx := fun e => ne1 e.symm
      have HBW := Aside0.mk hb1
      obtain ⟨k0, k1, k2, k3, k4, k5, k6⟩ := cells7 g0
      obtain ⟨z0, z1, z2, z3, z4, z5, z6⟩ := froz7 g0
      have y0 : w1.cell? ⟨bw, 0, none⟩ = some (.int .i64 sys) := by rw [blk_cell gw]; rfl
      have y1 : w1.cell? ⟨bw, 1, none⟩ = some (.int .i64 ep) := by rw [blk_cell gw]; rfl
      obtain ⟨r0, r1, r2, r3, r4, r5, r6⟩ := cells7 g1
      obtain ⟨s0, s1, s2, s3, s4, s5, s6⟩ := froz7 g1
      have G0 := Aside0.mk g0
      have GW := Aside0.mk gw
      have G1 := Aside0.mk g1
      clear g0 gw g1
      clear hw1 hb1 hbx hbw hrb hs1
      refine (HWR.out w1).mono ?_
      rintro e w2 ⟨rfl, hb⟩
      have g0 := blk_below G0.out hb
      have gw := blk_below GW.out hb
      have g1 := blk_below G1.out hb
      have hbw := HBW.out.trans (hb.mono HBW.out.size)
      have SZ12 : w1.heap.size ≤ w2.heap.size := hb.size
      clear k0 k1 k2 k3 k4 k5 k6 z0 z1 z2 z3 z4 z5 z6 y0 y1 r0 r1 r2 r3 r4 r5 r6 s0 s1 s2 s3 s4 s5 s6 G0 GW G1 HBW
      have HBW := Aside0.mk hbw
      obtain ⟨k0, k1, k2, k3, k4, k5, k6⟩ := cells7 g0
      obtain ⟨z0, z1, z2, z3, z4, z5, z6⟩ := froz7 g0
      have y0 : w2.cell? ⟨bw, 0, none⟩ = some (.int .i64 sys) := by rw [blk_cell gw]; rfl
      have y1 : w2.cell? ⟨bw, 1, none⟩ = some (.int .i64 ep) := by rw [blk_cell gw]; rfl
      obtain ⟨r0, r1, r2, r3, r4, r5, r6⟩ := cells7 g1
      obtain ⟨s0, s1, s2, s3, s4, s5, s6⟩ := froz7 g1
      have G0 := Aside0.mk g0
      have GW := Aside0.mk gw
      have G1 := Aside0.mk g1
      clear g0 gw g1
      clear hb hbw
      go_wp2_with fail
      refine (HT.out w2).mono ?_
      rintro e w3 ⟨rfl, hb⟩
      have g0 := blk_below G0.out hb
      have gw := blk_below GW.out hb
      have g1 := blk_below G1.out hb
      have hbw := HBW.out.trans (hb.mono HBW.out.size)
      have SZ23 : w2.heap.size ≤ w3.heap.size := hb.size
      clear k0 k1 k2 k3 k4 k5 k6 z0 z1 z2 z3 z4 z5 z6 y0 y1 r0 r1 r2 r3 r4 r5 r6 s0 s1 s2 s3 s4 s5 s6 G0 GW G1 HBW
      have HBW := Aside0.mk hbw
      obtain ⟨k0, k1, k2, k3, k4, k5, k6⟩ := cells7 g0
      obtain ⟨z0, z1, z2, z3, z4, z5, z6⟩ := froz7 g0
      have y0 : w3.cell? ⟨bw, 0, none⟩ = some (.int .i64 sys) := by rw [blk_cell gw]; rfl
      have y1 : w3.cell? ⟨bw, 1, none⟩ = some (.int .i64 ep) := by rw [blk_cell gw]; rfl
      obtain ⟨r0, r1, r2, r3, r4, r5, r6⟩ := cells7 g1
      obtain ⟨s0, s1, s2, s3, s4, s5, s6⟩ := froz7 g1
      have G0 := Aside0.mk g0
      have GW := Aside0.mk gw
      have G1 := Aside0.mk g1
      clear g0 gw g1
      clear hb hbw
      go_wp2_with fail
      refine (HFC.out w3 HBW.out).mono ?_
      rintro e w4 ⟨rfl, hb⟩
      have g0 := blk_below G0.out hb
      have gw := blk_below GW.out hb
      have g1 := blk_below G1.out hb
      have hbw := HBW.out.trans (hb.mono HBW.out.size)
      have SZ34 : w3.heap.size ≤ w4.heap.size := hb.size
      clear k0 k1 k2 k3 k4 k5 k6 z0 z1 z2 z3 z4 z5 z6 y0 y1 r0 r1 r2 r3 r4 r5 r6 s0 s1 s2 s3 s4 s5 s6 G0 GW G1 HBW
      have HBW := Aside0.mk hbw
      obtain ⟨k0, k1, k2, k3, k4, k5, k6⟩ := cells7 g0
      obtain ⟨z0, z1, z2, z3, z4, z5, z6⟩ := froz7 g0
      have y0 : w4.cell? ⟨bw, 0, none⟩ = some (.int .i64 sys) := by rw [blk_cell gw]; rfl
      have y1 : w4.cell? ⟨bw, 1, none⟩ = some (.int .i64 ep) := by rw [blk_cell gw]; rfl
      obtain ⟨r0, r1, r2, r3, r4, r5, r6⟩ := cells7 g1
      obtain ⟨s0, s1, s2, s3, s4, s5, s6⟩ := froz7 g1
      have G0 := Aside0.mk g0
      have GW := Aside0.mk gw
      have G1 := Aside0.mk g1
      clear g0 gw g1
      clear hb hbw
      go_wp2_with fail
      have hbC := set7_below HBW.out LB.out.2.2.1 (.slice A0 n0 c0) (.slice A1 n1 c1) (.slice A2 n2 c2) (.slice A3 n3 c3) (.bool false) (.int .i64 fu) (.slice A6 n6 c6)
      refine bodyPost_ret (results_ct rfl _ _ rb 31 #[.slice A0 n0 c0, .slice A1 n1 c1, .slice A2 n2 c2, .slice A3 n3 c3, .bool false, .int .i64 fu, .slice A6 n6 c6] (0, 0) _ rfl (set7_blk G1.out (.slice A0 n0 c0) (.slice A1 n1 c1) (.slice A2 n2 c2) (.slice A3 n3 c3) (.bool false) (.int .i64 fu) (.slice A6 n6 c6)) Try.underlying31 rfl (by kernel_rfl)) rfl ?_
      refine ⟨_, rfl, ?_, hbC⟩
      exact (HR.out.below hbC).mono (fun k hk _ => Or.inl hk)
     | false =>
      have ha := admit_use S sys ep EFA.out hfe
      have hgu : Good k (useS S).2 := by have := HG.out.admit sys ep; rw [ha] at this; exact this
      rw [ha] at HSY
      rw [hfe] at HFC
      have HGU := Aside0.mk hgu
      clear ha hgu hfe
      cases hb' : (useS S).1 with
      | true =>
       rw [hb'] at HSY
       have hu : writeS S sys ep sec d = (10, (useS S).2) := by rw [HSY.out, if_pos rfl, if_neg (by show ¬ (10 : Int) = 0; decide)]
       rw [hu]
       have HUB := Aside0.mk hb'
       clear hu hb'
       go_enter Try.func28, Try.ntmps28
       go_wp2_with fail
       obtain ⟨w1, hw1⟩ : ∃ w1, w1 = ((W.alloc (.cells #[.slice A0 n0 c0, .slice A1 n1 c1, .slice A2 n2 c2, .slice A3 n3 c3, .bool false, .int .i64 fu, .slice A6 n6 c6] 31)).alloc (.cells #[.int .i64 sys, .int .i64 ep] 35)).alloc (.cells #[.slice none 0 0, .slice none 0 0, .slice none 0 0, .slice none 0 0, .bool false, .int .i64 0, .slice none 0 0] 31) := ⟨_, rfl⟩
       obtain ⟨g0, gw, g1, hb1⟩ := three W (.cells #[.slice A0 n0 c0, .slice A1 n1 c1, .slice A2 n2 c2, .slice A3 n3 c3, .bool false, .int .i64 fu, .slice A6 n6 c6] 31) (.cells #[.int .i64 sys, .int .i64 ep] 35) (.cells #[.slice none 0 0, .slice none 0 0, .slice none 0 0, .slice none 0 0, .bool false, .int .i64 0, .slice none 0 0] 31)
       rw [← hw1] at g0 gw g1 hb1 ⊢
       obtain ⟨bx, hbx⟩ : ∃ bx, bx = W.heap.size := ⟨_, rfl⟩
       obtain ⟨bw, hbw⟩ : ∃ bw, bw = W.heap.size + 1 := ⟨_, rfl⟩
       obtain ⟨rb, hrb⟩ : ∃ rb, rb = W.heap.size + 1 + 1 := ⟨_, rfl⟩
       rw [← hrb] at g1 ⊢
       rw [← hbw] at gw ⊢
       rw [show (Value.pointer (some ⟨W.heap.size, 0, none⟩)) = .pointer (some ⟨bx, 0, none⟩) by rw [hbx]]
       rw [← hbx] at g0
       have hs1 : w1.heap.size = W.heap.size + 1 + 1 + 1 := by rw [hw1]; simp
       have LB := Aside0.mk (show W.heap.size ≤ bx ∧ W.heap.size ≤ bw ∧ W.heap.size ≤ rb ∧ bx ≠ rb ∧ bw ≠ rb ∧ bx ≠ bw ∧ bx < w1.heap.size ∧ rb < w1.heap.size ∧ bw < w1.heap.size from ⟨by omega, by omega, by omega, by omega, by omega, by omega, by omega, by omega, by omega⟩)
       have ne1 : bx ≠ rb := LB.out.2.2.2.1
       have ne2 : rb ≠ bx := fun e => ne1 e.symm
       have HBW := Aside0.mk hb1
       obtain ⟨k0, k1, k2, k3, k4, k5, k6⟩ := cells7 g0
       obtain ⟨z0, z1, z2, z3, z4, z5, z6⟩ := froz7 g0
       have y0 : w1.cell? ⟨bw, 0, none⟩ = some (.int .i64 sys) := by rw [blk_cell gw]; rfl
       have y1 : w1.cell? ⟨bw, 1, none⟩ = some (.int .i64 ep) := by rw [blk_cell gw]; rfl
       obtain ⟨r0, r1, r2, r3, r4, r5, r6⟩ := cells7 g1
       obtain ⟨s0, s1, s2, s3, s4, s5, s6⟩ := froz7 g1
       have G0 := Aside0.mk g0
       have GW := Aside0.mk gw
       have G1 := Aside0.mk g1
       clear g0 gw g1
       clear hw1 hb1 hbx hbw hrb hs1
       refine (HWR.out w1).mono ?_
       rintro e w2 ⟨rfl, hb⟩
       have g0 := blk_below G0.out hb
       have gw := blk_below GW.out hb
       have g1 := blk_below G1.out hb
       have hbw := HBW.out.trans (hb.mono HBW.out.size)
       have SZ12 : w1.heap.size ≤ w2.heap.size := hb.size
       clear k0 k1 k2 k3 k4 k5 k6 z0 z1 z2 z3 z4 z5 z6 y0 y1 r0 r1 r2 r3 r4 r5 r6 s0 s1 s2 s3 s4 s5 s6 G0 GW G1 HBW
       have HBW := Aside0.mk hbw
       obtain ⟨k0, k1, k2, k3, k4, k5, k6⟩ := cells7 g0
       obtain ⟨z0, z1, z2, z3, z4, z5, z6⟩ := froz7 g0
       have y0 : w2.cell? ⟨bw, 0, none⟩ = some (.int .i64 sys) := by rw [blk_cell gw]; rfl
       have y1 : w2.cell? ⟨bw, 1, none⟩ = some (.int .i64 ep) := by rw [blk_cell gw]; rfl
       obtain ⟨r0, r1, r2, r3, r4, r5, r6⟩ := cells7 g1
       obtain ⟨s0, s1, s2, s3, s4, s5, s6⟩ := froz7 g1
       have G0 := Aside0.mk g0
       have GW := Aside0.mk gw
       have G1 := Aside0.mk g1
       clear g0 gw g1
       clear hb hbw
       go_wp2_with fail
       refine (HT.out w2).mono ?_
       rintro e w3 ⟨rfl, hb⟩
       have g0 := blk_below G0.out hb
       have gw := blk_below GW.out hb
       have g1 := blk_below G1.out hb
       have hbw := HBW.out.trans (hb.mono HBW.out.size)
       have SZ23 : w2.heap.size ≤ w3.heap.size := hb.size
       clear k0 k1 k2 k3 k4 k5 k6 z0 z1 z2 z3 z4 z5 z6 y0 y1 r0 r1 r2 r3 r4 r5 r6 s0 s1 s2 s3 s4 s5 s6 G0 GW G1 HBW
       have HBW := Aside0.mk hbw
       obtain ⟨k0, k1, k2, k3, k4, k5, k6⟩ := cells7 g0
       obtain ⟨z0, z1, z2, z3, z4, z5, z6⟩ := froz7 g0
       have y0 : w3.cell? ⟨bw, 0, none⟩ = some (.int .i64 sys) := by rw [blk_cell gw]; rfl
       have y1 : w3.cell? ⟨bw, 1, none⟩ = some (.int .i64 ep) := by rw [blk_cell gw]; rfl
       obtain ⟨r0, r1, r2, r3, r4, r5, r6⟩ := cells7 g1
       obtain ⟨s0, s1, s2, s3, s4, s5, s6⟩ := froz7 g1
       have G0 := Aside0.mk g0
       have GW := Aside0.mk gw
       have G1 := Aside0.mk g1
       clear g0 gw g1
       clear hb hbw
       go_wp2_with fail
       refine (HFC.out w3 HBW.out).mono ?_
       rintro e w4 ⟨rfl, hb⟩
       have g0 := blk_below G0.out hb
       have gw := blk_below GW.out hb
       have g1 := blk_below G1.out hb
       have hbw := HBW.out.trans (hb.mono HBW.out.size)
       have SZ34 : w3.heap.size ≤ w4.heap.size := hb.size
       clear k0 k1 k2 k3 k4 k5 k6 z0 z1 z2 z3 z4 z5 z6 y0 y1 r0 r1 r2 r3 r4 r5 r6 s0 s1 s2 s3 s4 s5 s6 G0 GW G1 HBW
       have HBW := Aside0.mk hbw
       obtain ⟨k0, k1, k2, k3, k4, k5, k6⟩ := cells7 g0
       obtain ⟨z0, z1, z2, z3, z4, z5, z6⟩ := froz7 g0
       have y0 : w4.cell? ⟨bw, 0, none⟩ = some (.int .i64 sys) := by rw [blk_cell gw]; rfl
       have y1 : w4.cell? ⟨bw, 1, none⟩ = some (.int .i64 ep) := by rw [blk_cell gw]; rfl
       obtain ⟨r0, r1, r2, r3, r4, r5, r6⟩ := cells7 g1
       obtain ⟨s0, s1, s2, s3, s4, s5, s6⟩ := froz7 g1
       have G0 := Aside0.mk g0
       have GW := Aside0.mk gw
       have G1 := Aside0.mk g1
       clear g0 gw g1
       clear hb hbw
       go_wp2_with fail
       have SZ13 : w1.heap.size ≤ w4.heap.size := Nat.le_trans (Nat.le_trans SZ12 SZ23) SZ34
       refine (use_ref (ok := fun k => ok k ∧ k < W.heap.size) ((HR.out.mono (ok' := fun k => ok k ∧ k < W.heap.size) (fun k hk hlt => ⟨hk, hlt⟩)).below HBW.out) HG.out hk).mono ?_
       rintro e w45 ⟨v4, rfl, hR4, hb⟩
       rw [HUB.out]
       have HW13 := Aside0.mk (show w1.heap.size ≤ w4.heap.size from SZ13)
       obtain ⟨E0, E1, E2, E3, E6, d0, d1, d2, d3, d6, gl, gu, gs, hRC⟩ := hR4.open_
       obtain rfl := hRC.hv
       obtain ⟨S2, hS2⟩ : ∃ S2, S2 = (useS S).2 := ⟨_, rfl⟩
       rw [← hS2] at hR4 ⊢
       have HS2 := Aside0.mk hS2
       clear hS2
       obtain ⟨m0, hm0⟩ : ∃ m, m = S2.stable.length := ⟨_, rfl⟩
       obtain ⟨m1, hm1⟩ : ∃ m, m = S2.old.length := ⟨_, rfl⟩
       obtain ⟨m2, hm2⟩ : ∃ m, m = S2.pend.length := ⟨_, rfl⟩
       obtain ⟨m3, hm3⟩ : ∃ m, m = gl.length := ⟨_, rfl⟩
       obtain ⟨m6, hm6⟩ : ∃ m, m = gs.length := ⟨_, rfl⟩
       obtain ⟨ma, hma⟩ : ∃ m, m = S2.failed := ⟨_, rfl⟩
       rw [← hm0, ← hm1, ← hm2, ← hm3, ← hm6, ← hma]
       rw [← hm0, ← hm1, ← hm2, ← hm3, ← hm6, ← hma] at hR4
       have HR4 := Aside0.mk hR4
       clear hRC hm0 hm1 hm2 hm3 hm6 hma hR4
       have g0 := blk_below G0.out hb
       have gw := blk_below GW.out hb
       have g1 := blk_below G1.out hb
       have hbw := HBW.out.trans (hb.mono HBW.out.size)
       have SZ4x : w4.heap.size ≤ w45.heap.size := hb.size
       clear k0 k1 k2 k3 k4 k5 k6 z0 z1 z2 z3 z4 z5 z6 y0 y1 r0 r1 r2 r3 r4 r5 r6 s0 s1 s2 s3 s4 s5 s6 G0 GW G1 HBW
       have HBW := Aside0.mk hbw
       obtain ⟨k0, k1, k2, k3, k4, k5, k6⟩ := cells7 g0
       obtain ⟨z0, z1, z2, z3, z4, z5, z6⟩ := froz7 g0
       have y0 : w45.cell? ⟨bw, 0, none⟩ = some (.int .i64 sys) := by rw [blk_cell gw]; rfl
       have y1 : w45.cell? ⟨bw, 1, none⟩ = some (.int .i64 ep) := by rw [blk_cell gw]; rfl
       obtain ⟨r0, r1, r2, r3, r4, r5, r6⟩ := cells7 g1
       obtain ⟨s0, s1, s2, s3, s4, s5, s6⟩ := froz7 g1
       have G0 := Aside0.mk g0
       have GW := Aside0.mk gw
       have G1 := Aside0.mk g1
       clear g0 gw g1
       clear hb hbw
       go_upto_region 10 with (fail)
       obtain ⟨w5, hw5⟩ : ∃ w5, w5 = set7 w45 bx (.slice E0 m0 d0) (.slice E1 m1 d1) (.slice E2 m2 d2) (.slice E3 m3 d3) (.bool ma) (.int .i64 gu) (.slice E6 m6 d6) := ⟨_, rfl⟩
       have hf5 : ∀ k, k ≠ bx → w5.heap[k]? = w45.heap[k]? := fun k hk => by rw [hw5]; exact set7_far w45 bx (.slice E0 m0 d0) (.slice E1 m1 d1) (.slice E2 m2 d2) (.slice E3 m3 d3) (.bool ma) (.int .i64 gu) (.slice E6 m6 d6) k hk
       have g0 : w5.heap[bx]? = some (.cells #[.slice E0 m0 d0, .slice E1 m1 d1, .slice E2 m2 d2, .slice E3 m3 d3, .bool ma, .int .i64 gu, .slice E6 m6 d6] 31 (0, 0)) := by rw [hw5]; exact set7_blk G0.out (.slice E0 m0 d0) (.slice E1 m1 d1) (.slice E2 m2 d2) (.slice E3 m3 d3) (.bool ma) (.int .i64 gu) (.slice E6 m6 d6)
       have g1 := (hf5 rb ne2).trans G1.out
       have gw := (hf5 bw (fun e => LB.out.2.2.2.2.2.1 e.symm)).trans GW.out
       have hb5 : Below W.heap.size W w5 := by rw [hw5]; exact set7_below HBW.out LB.out.1 (.slice E0 m0 d0) (.slice E1 m1 d1) (.slice E2 m2 d2) (.slice E3 m3 d3) (.bool ma) (.int .i64 gu) (.slice E6 m6 d6)
       have hs5 : w5.heap.size = w45.heap.size := by rw [hw5]; exact set7_size w45 bx (.slice E0 m0 d0) (.slice E1 m1 d1) (.slice E2 m2 d2) (.slice E3 m3 d3) (.bool ma) (.int .i64 gu) (.slice E6 m6 d6)
       have HF5 := Aside0.mk hf5
       have HS5 := Aside0.mk hs5
       have HOK := Aside0.mk (show ∀ k, ((ok k ∧ k < W.heap.size) ∨ w4.heap.size ≤ k) → k ≠ bx ∧ k ≠ rb ∧ (ok k ∨ W.heap.size ≤ k) from fun k hk => by
        obtain ⟨l1, l2, l3, l4, l5, l6, l7, l8, l9⟩ := LB.out
        have l10 := HW13.out
        rcases hk with hk | hk
        ·exact ⟨by omega, by omega, Or.inl hk.1⟩
        ·exact ⟨by omega, by omega, Or.inr (by omega)⟩)
       unfold set7 at hw5
       rw [← hw5]
       clear hw5 hf5 hs5 k0 k1 k2 k3 k4 k5 k6 z0 z1 z2 z3 z4 z5 z6 y0 y1 r0 r1 r2 r3 r4 r5 r6 s0 s1 s2 s3 s4 s5 s6 G0 GW G1 HBW
       have HBW := Aside0.mk hb5
       obtain ⟨k0, k1, k2, k3, k4, k5, k6⟩ := cells7 g0
       obtain ⟨z0, z1, z2, z3, z4, z5, z6⟩ := froz7 g0
       have y0 : w5.cell? ⟨bw, 0, none⟩ = some (.int .i64 sys) := by rw [blk_cell gw]; rfl
       have y1 : w5.cell? ⟨bw, 1, none⟩ = some (.int .i64 ep) := by rw [blk_cell gw]; rfl
       obtain ⟨r0, r1, r2, r3, r4, r5, r6⟩ := cells7 g1
       obtain ⟨s0, s1, s2, s3, s4, s5, s6⟩ := froz7 g1
       have G0 := Aside0.mk g0
       have GW := Aside0.mk gw
       have G1 := Aside0.mk g1
       clear g0 gw g1
       clear hb5
       go_wp2_with fail
       have hbC := set7_below HBW.out LB.out.2.2.1 (.slice E0 m0 d0) (.slice E1 m1 d1) (.slice E2 m2 d2) (.slice E3 m3 d3) (.bool ma) (.int .i64 gu) (.slice E6 m6 d6)
       refine bodyPost_ret (results_ct rfl _ _ rb 31 #[.slice E0 m0 d0, .slice E1 m1 d1, .slice E2 m2 d2, .slice E3 m3 d3, .bool ma, .int .i64 gu, .slice E6 m6 d6] (0, 0) _ rfl (set7_blk G1.out (.slice E0 m0 d0) (.slice E1 m1 d1) (.slice E2 m2 d2) (.slice E3 m3 d3) (.bool ma) (.int .i64 gu) (.slice E6 m6 d6)) Try.underlying31 rfl (by kernel_rfl)) rfl ?_
       refine ⟨_, rfl, ?_, hbC⟩
       have hh := (HR4.out.step (fun k hk _ => (set7_far w5 rb (.slice E0 m0 d0) (.slice E1 m1 d1) (.slice E2 m2 d2) (.slice E3 m3 d3) (.bool ma) (.int .i64 gu) (.slice E6 m6 d6) k (HOK.out k hk).2.1).trans (HF5.out k (HOK.out k hk).1))).mono (fun k hk _ => (HOK.out k hk).2.2)
       rw [HS2.out] at hh
       exact hh
      | false =>
       rw [hb'] at HSY
       have hu : writeS S sys ep sec d = (0, pushS (useS S).2 ⟨sys, sec, d⟩) := by rw [HSY.out]; simp
       rw [hu]
       have HUB := Aside0.mk hb'
       clear hu hb'
       go_enter Try.func28, Try.ntmps28
       go_wp2_with fail
       obtain ⟨w1, hw1⟩ : ∃ w1, w1 = ((W.alloc (.cells #[.slice A0 n0 c0, .slice A1 n1 c1, .slice A2 n2 c2, .slice A3 n3 c3, .bool false, .int .i64 fu, .slice A6 n6 c6] 31)).alloc (.cells #[.int .i64 sys, .int .i64 ep] 35)).alloc (.cells #[.slice none 0 0, .slice none 0 0, .slice none 0 0, .slice none 0 0, .bool false, .int .i64 0, .slice none 0 0] 31) := ⟨_, rfl⟩
       obtain ⟨g0, gw, g1, hb1⟩ := three W (.cells #[.slice A0 n0 c0, .slice A1 n1 c1, .slice A2 n2 c2, .slice A3 n3 c3, .bool false, .int .i64 fu, .slice A6 n6 c6] 31) (.cells #[.int .i64 sys, .int .i64 ep] 35) (.cells #[.slice none 0 0, .slice none 0 0, .slice none 0 0, .slice none 0 0, .bool false, .int .i64 0, .slice none 0 0] 31)
       rw [← hw1] at g0 gw g1 hb1 ⊢
       obtain ⟨bx, hbx⟩ : ∃ bx, bx = W.heap.size := ⟨_, rfl⟩
       obtain ⟨bw, hbw⟩ : ∃ bw, bw = W.heap.size + 1 := ⟨_, rfl⟩
       obtain ⟨rb, hrb⟩ : ∃ rb, rb = W.heap.size + 1 + 1 := ⟨_, rfl⟩
       rw [← hrb] at g1 ⊢
       rw [← hbw] at gw ⊢
       rw [show (Value.pointer (some ⟨W.heap.size, 0, none⟩)) = .pointer (some ⟨bx, 0, none⟩) by rw [hbx]]
       rw [← hbx] at g0
       have hs1 : w1.heap.size = W.heap.size + 1 + 1 + 1 := by rw [hw1]; simp
       have LB := Aside0.mk (show W.heap.size ≤ bx ∧ W.heap.size ≤ bw ∧ W.heap.size ≤ rb ∧ bx ≠ rb ∧ bw ≠ rb ∧ bx ≠ bw ∧ bx < w1.heap.size ∧ rb < w1.heap.size ∧ bw < w1.heap.size from ⟨by omega, by omega, by omega, by omega, by omega, by omega, by omega, by omega, by omega⟩)
       have ne1 : bx ≠ rb := LB.out.2.2.2.1
       have ne2 : rb ≠ bx := fun e => ne1 e.symm
       have HBW := Aside0.mk hb1
       obtain ⟨k0, k1, k2, k3, k4, k5, k6⟩ := cells7 g0
       obtain ⟨z0, z1, z2, z3, z4, z5, z6⟩ := froz7 g0
       have y0 : w1.cell? ⟨bw, 0, none⟩ = some (.int .i64 sys) := by rw [blk_cell gw]; rfl
       have y1 : w1.cell? ⟨bw, 1, none⟩ = some (.int .i64 ep) := by rw [blk_cell gw]; rfl
       obtain ⟨r0, r1, r2, r3, r4, r5, r6⟩ := cells7 g1
       obtain ⟨s0, s1, s2, s3, s4, s5, s6⟩ := froz7 g1
       have G0 := Aside0.mk g0
       have GW := Aside0.mk gw
       have G1 := Aside0.mk g1
       clear g0 gw g1
       clear hw1 hb1 hbx hbw hrb hs1
       refine (HWR.out w1).mono ?_
       rintro e w2 ⟨rfl, hb⟩
       have g0 := blk_below G0.out hb
       have gw := blk_below GW.out hb
       have g1 := blk_below G1.out hb
       have hbw := HBW.out.trans (hb.mono HBW.out.size)
       have SZ12 : w1.heap.size ≤ w2.heap.size := hb.size
       clear k0 k1 k2 k3 k4 k5 k6 z0 z1 z2 z3 z4 z5 z6 y0 y1 r0 r1 r2 r3 r4 r5 r6 s0 s1 s2 s3 s4 s5 s6 G0 GW G1 HBW
       have HBW := Aside0.mk hbw
       obtain ⟨k0, k1, k2, k3, k4, k5, k6⟩ := cells7 g0
       obtain ⟨z0, z1, z2, z3, z4, z5, z6⟩ := froz7 g0
       have y0 : w2.cell? ⟨bw, 0, none⟩ = some (.int .i64 sys) := by rw [blk_cell gw]; rfl
       have y1 : w2.cell? ⟨bw, 1, none⟩ = some (.int .i64 ep) := by rw [blk_cell gw]; rfl
       obtain ⟨r0, r1, r2, r3, r4, r5, r6⟩ := cells7 g1
       obtain ⟨s0, s1, s2, s3, s4, s5, s6⟩ := froz7 g1
       have G0 := Aside0.mk g0
       have GW := Aside0.mk gw
       have G1 := Aside0.mk g1
       clear g0 gw g1
       clear hb hbw
       go_wp2_with fail
       refine (HT.out w2).mono ?_
       rintro e w3 ⟨rfl, hb⟩
       have g0 := blk_below G0.out hb
       have gw := blk_below GW.out hb
       have g1 := blk_below G1.out hb
       have hbw := HBW.out.trans (hb.mono HBW.out.size)
       have SZ23 : w2.heap.size ≤ w3.heap.size := hb.size
       clear k0 k1 k2 k3 k4 k5 k6 z0 z1 z2 z3 z4 z5 z6 y0 y1 r0 r1 r2 r3 r4 r5 r6 s0 s1 s2 s3 s4 s5 s6 G0 GW G1 HBW
       have HBW := Aside0.mk hbw
       obtain ⟨k0, k1, k2, k3, k4, k5, k6⟩ := cells7 g0
       obtain ⟨z0, z1, z2, z3, z4, z5, z6⟩ := froz7 g0
       have y0 : w3.cell? ⟨bw, 0, none⟩ = some (.int .i64 sys) := by rw [blk_cell gw]; rfl
       have y1 : w3.cell? ⟨bw, 1, none⟩ = some (.int .i64 ep) := by rw [blk_cell gw]; rfl
       obtain ⟨r0, r1, r2, r3, r4, r5, r6⟩ := cells7 g1
       obtain ⟨s0, s1, s2, s3, s4, s5, s6⟩ := froz7 g1
       have G0 := Aside0.mk g0
       have GW := Aside0.mk gw
       have G1 := Aside0.mk g1
       clear g0 gw g1
       clear hb hbw
       go_wp2_with fail
       refine (HFC.out w3 HBW.out).mono ?_
       rintro e w4 ⟨rfl, hb⟩
       have g0 := blk_below G0.out hb
       have gw := blk_below GW.out hb
       have g1 := blk_below G1.out hb
       have hbw := HBW.out.trans (hb.mono HBW.out.size)
       have SZ34 : w3.heap.size ≤ w4.heap.size := hb.size
       clear k0 k1 k2 k3 k4 k5 k6 z0 z1 z2 z3 z4 z5 z6 y0 y1 r0 r1 r2 r3 r4 r5 r6 s0 s1 s2 s3 s4 s5 s6 G0 GW G1 HBW
       have HBW := Aside0.mk hbw
       obtain ⟨k0, k1, k2, k3, k4, k5, k6⟩ := cells7 g0
       obtain ⟨z0, z1, z2, z3, z4, z5, z6⟩ := froz7 g0
       have y0 : w4.cell? ⟨bw, 0, none⟩ = some (.int .i64 sys) := by rw [blk_cell gw]; rfl
       have y1 : w4.cell? ⟨bw, 1, none⟩ = some (.int .i64 ep) := by rw [blk_cell gw]; rfl
       obtain ⟨r0, r1, r2, r3, r4, r5, r6⟩ := cells7 g1
       obtain ⟨s0, s1, s2, s3, s4, s5, s6⟩ := froz7 g1
       have G0 := Aside0.mk g0
       have GW := Aside0.mk gw
       have G1 := Aside0.mk g1
       clear g0 gw g1
       clear hb hbw
       go_wp2_with fail
       have SZ13 : w1.heap.size ≤ w4.heap.size := Nat.le_trans (Nat.le_trans SZ12 SZ23) SZ34
       refine (use_ref (ok := fun k => ok k ∧ k < W.heap.size) ((HR.out.mono (ok' := fun k => ok k ∧ k < W.heap.size) (fun k hk hlt => ⟨hk, hlt⟩)).below HBW.out) HG.out hk).mono ?_
       rintro e w45 ⟨v4, rfl, hR4, hb⟩
       rw [HUB.out]
       have HW13 := Aside0.mk (show w1.heap.size ≤ w4.heap.size from SZ13)
       obtain ⟨E0, E1, E2, E3, E6, d0, d1, d2, d3, d6, gl, gu, gs, hRC⟩ := hR4.open_
       obtain rfl := hRC.hv
       obtain ⟨S2, hS2⟩ : ∃ S2, S2 = (useS S).2 := ⟨_, rfl⟩
       rw [← hS2] at hR4 ⊢
       have HS2 := Aside0.mk hS2
       clear hS2
       obtain ⟨m0, hm0⟩ : ∃ m, m = S2.stable.length := ⟨_, rfl⟩
       obtain ⟨m1, hm1⟩ : ∃ m, m = S2.old.length := ⟨_, rfl⟩
       obtain ⟨m2, hm2⟩ : ∃ m, m = S2.pend.length := ⟨_, rfl⟩
       obtain ⟨m3, hm3⟩ : ∃ m, m = gl.length := ⟨_, rfl⟩
       obtain ⟨m6, hm6⟩ : ∃ m, m = gs.length := ⟨_, rfl⟩
       obtain ⟨ma, hma⟩ : ∃ m, m = S2.failed := ⟨_, rfl⟩
       rw [← hm0, ← hm1, ← hm2, ← hm3, ← hm6, ← hma]
       rw [← hm0, ← hm1, ← hm2, ← hm3, ← hm6, ← hma] at hR4
       have HR4 := Aside0.mk hR4
       clear hRC hm0 hm1 hm2 hm3 hm6 hma hR4
       have g0 := blk_below G0.out hb
       have gw := blk_below GW.out hb
       have g1 := blk_below G1.out hb
       have hbw := HBW.out.trans (hb.mono HBW.out.size)
       have SZ4x : w4.heap.size ≤ w45.heap.size := hb.size
       clear k0 k1 k2 k3 k4 k5 k6 z0 z1 z2 z3 z4 z5 z6 y0 y1 r0 r1 r2 r3 r4 r5 r6 s0 s1 s2 s3 s4 s5 s6 G0 GW G1 HBW
       have HBW := Aside0.mk hbw
       obtain ⟨k0, k1, k2, k3, k4, k5, k6⟩ := cells7 g0
       obtain ⟨z0, z1, z2, z3, z4, z5, z6⟩ := froz7 g0
       have y0 : w45.cell? ⟨bw, 0, none⟩ = some (.int .i64 sys) := by rw [blk_cell gw]; rfl
       have y1 : w45.cell? ⟨bw, 1, none⟩ = some (.int .i64 ep) := by rw [blk_cell gw]; rfl
       obtain ⟨r0, r1, r2, r3, r4, r5, r6⟩ := cells7 g1
       obtain ⟨s0, s1, s2, s3, s4, s5, s6⟩ := froz7 g1
       have G0 := Aside0.mk g0
       have GW := Aside0.mk gw
       have G1 := Aside0.mk g1
       clear g0 gw g1
       clear hb hbw
       go_upto_region 10 with (fail)
       obtain ⟨w5, hw5⟩ : ∃ w5, w5 = set7 w45 bx (.slice E0 m0 d0) (.slice E1 m1 d1) (.slice E2 m2 d2) (.slice E3 m3 d3) (.bool ma) (.int .i64 gu) (.slice E6 m6 d6) := ⟨_, rfl⟩
       have hf5 : ∀ k, k ≠ bx → w5.heap[k]? = w45.heap[k]? := fun k hk => by rw [hw5]; exact set7_far w45 bx (.slice E0 m0 d0) (.slice E1 m1 d1) (.slice E2 m2 d2) (.slice E3 m3 d3) (.bool ma) (.int .i64 gu) (.slice E6 m6 d6) k hk
       have g0 : w5.heap[bx]? = some (.cells #[.slice E0 m0 d0, .slice E1 m1 d1, .slice E2 m2 d2, .slice E3 m3 d3, .bool ma, .int .i64 gu, .slice E6 m6 d6] 31 (0, 0)) := by rw [hw5]; exact set7_blk G0.out (.slice E0 m0 d0) (.slice E1 m1 d1) (.slice E2 m2 d2) (.slice E3 m3 d3) (.bool ma) (.int .i64 gu) (.slice E6 m6 d6)
       have g1 := (hf5 rb ne2).trans G1.out
       have gw := (hf5 bw (fun e => LB.out.2.2.2.2.2.1 e.symm)).trans GW.out
       have hb5 : Below W.heap.size W w5 := by rw [hw5]; exact set7_below HBW.out LB.out.1 (.slice E0 m0 d0) (.slice E1 m1 d1) (.slice E2 m2 d2) (.slice E3 m3 d3) (.bool ma) (.int .i64 gu) (.slice E6 m6 d6)
       have hs5 : w5.heap.size = w45.heap.size := by rw [hw5]; exact set7_size w45 bx (.slice E0 m0 d0) (.slice E1 m1 d1) (.slice E2 m2 d2) (.slice E3 m3 d3) (.bool ma) (.int .i64 gu) (.slice E6 m6 d6)
       have HF5 := Aside0.mk hf5
       have HS5 := Aside0.mk hs5
       have HOK := Aside0.mk (show ∀ k, ((ok k ∧ k < W.heap.size) ∨ w4.heap.size ≤ k) → k ≠ bx ∧ k ≠ rb ∧ (ok k ∨ W.heap.size ≤ k) from fun k hk => by
        obtain ⟨l1, l2, l3, l4, l5, l6, l7, l8, l9⟩ := LB.out
        have l10 := HW13.out
        rcases hk with hk | hk
        ·exact ⟨by omega, by omega, Or.inl hk.1⟩
        ·exact ⟨by omega, by omega, Or.inr (by omega)⟩)
       unfold set7 at hw5
       rw [← hw5]
       clear hw5 hf5 hs5 k0 k1 k2 k3 k4 k5 k6 z0 z1 z2 z3 z4 z5 z6 y0 y1 r0 r1 r2 r3 r4 r5 r6 s0 s1 s2 s3 s4 s5 s6 G0 GW G1 HBW
       have HBW := Aside0.mk hb5
       obtain ⟨k0, k1, k2, k3, k4, k5, k6⟩ := cells7 g0
       obtain ⟨z0, z1, z2, z3, z4, z5, z6⟩ := froz7 g0
       have y0 : w5.cell? ⟨bw, 0, none⟩ = some (.int .i64 sys) := by rw [blk_cell gw]; rfl
       have y1 : w5.cell? ⟨bw, 1, none⟩ = some (.int .i64 ep) := by rw [blk_cell gw]; rfl
       obtain ⟨r0, r1, r2, r3, r4, r5, r6⟩ := cells7 g1
       obtain ⟨s0, s1, s2, s3, s4, s5, s6⟩ := froz7 g1
       have G0 := Aside0.mk g0
       have GW := Aside0.mk gw
       have G1 := Aside0.mk g1
       clear g0 gw g1
       clear hb5
       obtain ⟨gl', gu', gs', x4, x5, hA2⟩ := HR4.out.agg
       obtain ⟨Aq, cq, eS2, hlS2, hFS2⟩ := id hA2.h2
       have hm2 : m2 = S2.pend.length := by injection eS2
       have heq : E2 = Aq := by injection eS2
       subst heq
       rw [← hm2] at hFS2
       obtain ⟨pd, hpd⟩ : ∃ pd, pd = S2.pend := ⟨_, rfl⟩
       have hpl : pd.length ≤ k := by rw [hpd, HS2.out]; exact HGU.out.fine.plen
       rw [← hpd] at hm2 hFS2
       have HPD := Aside0.mk hpd
       have HM2 := Aside0.mk hm2
       have hC5 : Kd.C k99 w5 E2 m2 pd := Kd.F_now (Kd.F_step hFS2 (fun k hk _ => HF5.out k (HOK.out k hk).1))
       have hm2k : m2 ≤ 1000000 := by omega
       have HC2 := Aside0.mk hC5
       have HK2 := Aside0.mk k2
       have HY0 := Aside0.mk y0
       have HBe : Aside0 (Below w5.heap.size w5 w5.drew) := ⟨(Below.refl _ _).drew⟩
       clear hpd hm2 hFS2 hC5 hpl eS2 hlS2 hA2 x4 x5 cq gl' gu' gs'
       go_wp2_with fail
       refine start_ (n := 13) (S := fun w' => w'.cell? ⟨bx, 2, none⟩ = some (.slice E2 m2 d2) ∧ w'.cell? ⟨bw, 0, none⟩ = some (.int .i64 sys)) (ds := [10, 12]) #[false, false, false, false, false, false, false, false, false, false, false, false, false] (by kernel_rfl) rfl rfl ⟨k2, y0⟩ (fun hHeld => ?_)
       refine pure_ (i := 1) (N := some 44) (v := ?_) (a' := ?_) #[false, true, false, false, false, false, false, false, false, false, false, false, false] rfl rfl (by kernel_rfl) (fun _ _ _ h => h) (Or.inl ⟨by rfl, ?_⟩) ?_ ?_
       rotate_left
       ·intro w'
        go_simp
        with_reducible rfl
       rotate_left
       ·simp only [Act.put, List.setIfInBounds_toArray, List.set_cons_zero, List.set_cons_succ, i64_w, i32_w]
        rfl
       refine pure_ (i := 4) (N := some 47) (v := ?_) (a' := ?_) #[false, true, false, false, true, false, false, false, false, false, false, false, false] rfl rfl (by kernel_rfl) (fun _ _ _ h => h) (Or.inl ⟨by rfl, ?_⟩) ?_ ?_
       rotate_left
       ·intro w'
        go_simp
        with_reducible rfl
       rotate_left
       ·simp only [Act.put, List.setIfInBounds_toArray, List.set_cons_zero, List.set_cons_succ, i64_w, i32_w]
        rfl
       refine pure_ (i := 6) (N := some 49) (v := ?_) (a' := ?_) #[false, true, false, false, true, false, true, false, false, false, false, false, false] rfl rfl (by kernel_rfl) (fun _ _ _ h => h) (Or.inl ⟨by rfl, ?_⟩) ?_ ?_
       rotate_left
       ·intro w'
        go_simp
        with_reducible rfl
       rotate_left
       ·simp only [Act.put, List.setIfInBounds_toArray, List.set_cons_zero, List.set_cons_succ, i64_w, i32_w]
        rfl
       refine pure_ (i := 7) (N := some 50) (v := ?_) (a' := ?_) #[false, true, false, false, true, false, true, true, false, false, false, false, false] rfl rfl (by kernel_rfl) (fun _ _ _ h => h) (Or.inl ⟨by rfl, ?_⟩) ?_ ?_
       rotate_left
       ·intro w'
        go_simp
        with_reducible rfl
       rotate_left
       ·simp only [Act.put, List.setIfInBounds_toArray, List.set_cons_zero, List.set_cons_succ, i64_w, i32_w]
        rfl
       refine take_ (i := 2) (N := some 45) (v := ?_) (a' := ?_) #[false, true, true, false, true, false, true, true, false, false, false, false, false] rfl rfl (by kernel_rfl) (fun _ _ _ h => h) (Or.inl ⟨by rfl, ?_⟩) hHeld ?_ ?_
       rotate_left
       ·rintro w' ⟨s0, s1⟩
        go_simp
        with_reducible rfl
       rotate_left
       ·simp only [Act.put, List.setIfInBounds_toArray, List.set_cons_zero, List.set_cons_succ, i64_w, i32_w]
        rfl
       refine take_ (i := 5) (N := some 48) (v := ?_) (a' := ?_) #[false, true, true, false, true, true, true, true, false, false, false, false, false] rfl rfl (by kernel_rfl) (fun _ _ _ h => h) (Or.inl ⟨by rfl, ?_⟩) hHeld ?_ ?_
       rotate_left
       ·rintro w' ⟨s0, s1⟩
        go_simp
        with_reducible rfl
       rotate_left
       ·simp only [Act.put, List.setIfInBounds_toArray, List.set_cons_zero, List.set_cons_succ, i64_w, i32_w]
        rfl
       refine pure_ (i := 8) (N := some 51) (v := ?_) (a' := ?_) #[false, true, true, false, true, true, true, true, true, false, false, false, false] rfl rfl (by kernel_rfl) (fun _ _ _ h => h) (Or.inl ⟨by rfl, ?_⟩) ?_ ?_
       rotate_left
       ·intro w'
        go_simp
        with_reducible rfl
       rotate_left
       ·simp only [Act.put, List.setIfInBounds_toArray, List.set_cons_zero, List.set_cons_succ, i64_w, i32_w]
        rfl
       refine join_ (σ := Nat × (Option Addr × Nat) × Nat) 3 #[true, true, true, true, true, true, true, true, true, true, false, false, false] (fun s_ => [(43, .slice (some ⟨s_.1, 0, none⟩) 0 0), (46, .slice s_.2.1.1 m2 s_.2.1.2), (52, .slice (some ⟨s_.2.2, 0, none⟩) 1 1)]) (fun s_ w' => (w'.cell? ⟨bx, 2, none⟩ = some (.slice E2 m2 d2) ∧ w'.cell? ⟨bw, 0, none⟩ = some (.int .i64 sys)) ∧ Aside0 (Below w5.heap.size w5 w') ∧ Aside0 (Kd.R k99 99 w' w5.heap.size (fun k => w5.heap.size ≤ k) (.slice s_.2.1.1 m2 s_.2.1.2) pd) ∧ Aside0 (w'.heap[s_.2.2]? = some (.cells #[.int .i64 sys, .int .i64 sec, .string d] 99 (0, 0)) ∧ w5.heap.size ≤ s_.2.2)) ?_ ?_
       rotate_left
       ·intro hJ0_3_9
        refine join_ (σ := Nat × (Option Addr × Nat)) 4 #[true, true, true, true, true, true, true, true, true, false, false, false, false] (fun s_ => [(43, .slice (some ⟨s_.1, 0, none⟩) 0 0), (46, .slice s_.2.1 m2 s_.2.2)]) (fun s_ w' => (w'.cell? ⟨bx, 2, none⟩ = some (.slice E2 m2 d2) ∧ w'.cell? ⟨bw, 0, none⟩ = some (.int .i64 sys)) ∧ Aside0 (Below w5.heap.size w5 w') ∧ Aside0 (Kd.R k99 99 w' w5.heap.size (fun k => w5.heap.size ≤ k) (.slice s_.2.1 m2 s_.2.2) pd)) ?_ ?_
        rotate_left
        ·intro hJ0_3
         refine join_ (σ := Nat × Nat) 4 #[true, true, true, false, true, true, true, true, true, true, false, false, false] (fun s_ => [(43, .slice (some ⟨s_.1, 0, none⟩) 0 0), (52, .slice (some ⟨s_.2, 0, none⟩) 1 1)]) (fun s_ w' => (w'.cell? ⟨bx, 2, none⟩ = some (.slice E2 m2 d2) ∧ w'.cell? ⟨bw, 0, none⟩ = some (.int .i64 sys)) ∧ Aside0 (Below w5.heap.size w5 w') ∧ Aside0 (w'.heap[s_.1]? = some (.cells #[] 99 (0, 0)) ∧ w5.heap.size ≤ s_.1) ∧ Aside0 (w'.heap[s_.2]? = some (.cells #[.int .i64 sys, .int .i64 sec, .string d] 99 (0, 0)) ∧ w5.heap.size ≤ s_.2) ∧ Aside0 (s_.1 ≠ s_.2)) ?_ ?_
         rotate_left
         ·intro hJ0_9
          refine join_ (σ := Nat) 5 #[true, true, true, false, true, true, true, true, true, false, false, false, false] (fun s_ => [(43, .slice (some ⟨s_, 0, none⟩) 0 0)]) (fun s_ w' => (w'.cell? ⟨bx, 2, none⟩ = some (.slice E2 m2 d2) ∧ w'.cell? ⟨bw, 0, none⟩ = some (.int .i64 sys)) ∧ Aside0 (Below w5.heap.size w5 w') ∧ Aside0 (w'.heap[s_]? = some (.cells #[] 99 (0, 0)) ∧ w5.heap.size ≤ s_)) ?_ ?_
          rotate_left
          ·intro hJ0
           refine join_ (σ := Nat) 5 #[false, true, true, false, true, true, true, true, true, true, false, false, false] (fun s_ => [(52, .slice (some ⟨s_, 0, none⟩) 1 1)]) (fun s_ w' => (w'.cell? ⟨bx, 2, none⟩ = some (.slice E2 m2 d2) ∧ w'.cell? ⟨bw, 0, none⟩ = some (.int .i64 sys)) ∧ Aside0 (Below w5.heap.size w5 w') ∧ Aside0 (w'.heap[s_]? = some (.cells #[.int .i64 sys, .int .i64 sec, .string d] 99 (0, 0)) ∧ w5.heap.size ≤ s_)) ?_ ?_
           rotate_left
           ·intro hJ9
            refine two_ (i := 0) (j := 9) (Ni := some 43) (Nj := some 52) #[true, true, true, false, true, true, true, true, true, false, false, false, false] #[false, true, true, false, true, true, true, true, true, true, false, false, false] rfl rfl rfl rfl (by kernel_rfl) (by decide) (by decide) (fun K hK => ?_) (fun K hK => ?_)
            ·skip
             refine value_ (w1 := ?_) (v := ?_) (by rfl) rfl ?_ ?_
             rotate_left 2
             ·go_simp
              constructor
              ·rfl
              ·rfl
             refine hK.out _ _ (hold2 (below_alloc (Below.refl _ _) _) hHeld) (fun hHeld => ?_)
             clear hK K
             refine norm_ (a' := ?_) ?_ ?_
             rotate_left
             ·show Act.put _ (some 43) _ = _
              simp only [Act.put, List.setIfInBounds_toArray, List.set_cons_zero, List.set_cons_succ, i64_w, i32_w]
              rfl
             exact norm_ (by first | (simp only [putAll, Act.put, List.setIfInBounds_toArray, List.set_cons_zero, List.set_cons_succ]; done) | (simp only [putAll, Act.put, List.setIfInBounds_toArray, List.set_cons_zero, List.set_cons_succ]; rfl)) (hJ0 w5.drew.heap.size _ ⟨hHeld, ⟨HBe.out.trans ((below_alloc (Below.refl _ _) _).mono HBe.out.size)⟩, ⟨⟨blk_new _ _, HBe.out.size⟩⟩⟩)
            ·skip
             refine value_ (w1 := ?_) (v := ?_) (by rfl) rfl ?_ ?_
             rotate_left 2
             ·go_simp
              constructor
              ·rfl
              ·rfl
             refine hK.out _ _ (hold2 (below_alloc (Below.refl _ _) _) hHeld) (fun hHeld => ?_)
             clear hK K
             refine norm_ (a' := ?_) ?_ ?_
             rotate_left
             ·show Act.put _ (some 52) _ = _
              simp only [Act.put, List.setIfInBounds_toArray, List.set_cons_zero, List.set_cons_succ, i64_w, i32_w]
              rfl
             exact norm_ (by first | (simp only [putAll, Act.put, List.setIfInBounds_toArray, List.set_cons_zero, List.set_cons_succ]; done) | (simp only [putAll, Act.put, List.setIfInBounds_toArray, List.set_cons_zero, List.set_cons_succ]; rfl)) (hJ9 w5.drew.heap.size _ ⟨hHeld, ⟨HBe.out.trans ((below_alloc (Below.refl _ _) _).mono HBe.out.size)⟩, ⟨⟨blk_new _ _, HBe.out.size⟩⟩⟩)
           ·skip
            rintro g9 w9 ⟨hHeld, HBe, H9⟩
            refine norm_ (a' := ?_) ?_ ?_
            rotate_left
            ·simp only [putAll, Act.put, List.setIfInBounds_toArray, List.set_cons_zero, List.set_cons_succ]
             rfl
            refine one_ (i := 0) (N := some 43) #[true, true, true, false, true, true, true, true, true, true, false, false, false] rfl rfl (by kernel_rfl) (by decide) (fun K hK => ?_)
            refine value_ (w1 := ?_) (v := ?_) (by rfl) rfl ?_ ?_
            rotate_left 2
            ·go_simp
             constructor
             ·rfl
             ·rfl
            refine hK.out _ _ (hold2 (below_alloc (Below.refl _ _) _) hHeld) (fun hHeld => ?_)
            clear hK K
            refine norm_ (a' := ?_) ?_ ?_
            rotate_left
            ·show Act.put _ (some 43) _ = _
             simp only [Act.put, List.setIfInBounds_toArray, List.set_cons_zero, List.set_cons_succ, i64_w, i32_w]
             rfl
            exact norm_ (by first | (simp only [putAll, Act.put, List.setIfInBounds_toArray, List.set_cons_zero, List.set_cons_succ]; done) | (simp only [putAll, Act.put, List.setIfInBounds_toArray, List.set_cons_zero, List.set_cons_succ]; rfl)) (hJ0_9 (w9.heap.size, g9) _ ⟨hHeld, ⟨HBe.out.trans ((below_alloc (Below.refl _ _) _).mono HBe.out.size)⟩, ⟨⟨blk_new _ _, HBe.out.size⟩⟩, ⟨⟨blk_below H9.out.1 (below_alloc (Below.refl _ _) _), H9.out.2⟩⟩, ⟨fun e => by have := blk_lt H9.out.1; omega⟩⟩)
          ·skip
           rintro e0 w0 ⟨hHeld, HBe, H0⟩
           refine norm_ (a' := ?_) ?_ ?_
           rotate_left
           ·simp only [putAll, Act.put, List.setIfInBounds_toArray, List.set_cons_zero, List.set_cons_succ]
            rfl
           refine two_ (i := 3) (j := 9) (Ni := some 46) (Nj := some 52) #[true, true, true, true, true, true, true, true, true, false, false, false, false] #[true, true, true, false, true, true, true, true, true, true, false, false, false] rfl rfl rfl rfl (by kernel_rfl) (by decide) (by decide) (fun K hK => ?_) (fun K hK => ?_)
           ·skip
            refine Kd.R_append_rows_step k99 (w0 := w5) w5.heap.size (by rfl) (.tmp 43) (.tmp 45) 28 99 (.agg #[.int .i64 0, .int .i64 0, .string ⟨#[]⟩]) 32 rfl Try.underlying28 info99 rfl (by decide) (by omega) _ [] pd E2 m2 d2 (fun k => w5.heap.size ≤ k) (fun _ => False) rfl rfl (empty_own' H0.out.1 H0.out.2) (Kd.C_below HC2.out HBe.out) (fun x cs h => by rw [k99_open h]; exact k99_mkM _ _ _ x) (fun _ h => h.elim) (fun k hk => Nat.le_trans HBe.out.size hk) HBe.out HBe.out.size (by simp; omega) ?_
            intro v1 w1 hR1 hb1 hg1 hat1
            rw [List.nil_append] at hR1
            obtain ⟨A9, c9, hv1⟩ := Kd.R_slice hR1
            rw [← HM2.out] at hv1
            subst hv1
            refine hK.out _ _ ⟨((hb1.cell (World.block_lt_of_cell? _ _ HK2.out)).trans HK2.out), ((hb1.cell (World.block_lt_of_cell? _ _ HY0.out)).trans HY0.out)⟩ (fun hHeld => ?_)
            clear hK K
            refine norm_ (a' := ?_) ?_ ?_
            rotate_left
            ·show Act.put _ (some 46) _ = _
             simp only [Act.put, List.setIfInBounds_toArray, List.set_cons_zero, List.set_cons_succ, i64_w, i32_w]
             rfl
            exact norm_ (by first | (simp only [putAll, Act.put, List.setIfInBounds_toArray, List.set_cons_zero, List.set_cons_succ]; done) | (simp only [putAll, Act.put, List.setIfInBounds_toArray, List.set_cons_zero, List.set_cons_succ]; rfl)) (hJ0_3 (e0, (A9, c9)) _ ⟨hHeld, ⟨hb1⟩, ⟨hR1⟩⟩)
           ·skip
            refine value_ (w1 := ?_) (v := ?_) (by rfl) rfl ?_ ?_
            rotate_left 2
            ·go_simp
             constructor
             ·rfl
             ·rfl
            refine hK.out _ _ (hold2 (below_alloc (Below.refl _ _) _) hHeld) (fun hHeld => ?_)
            clear hK K
            refine norm_ (a' := ?_) ?_ ?_
            rotate_left
            ·show Act.put _ (some 52) _ = _
             simp only [Act.put, List.setIfInBounds_toArray, List.set_cons_zero, List.set_cons_succ, i64_w, i32_w]
             rfl
            exact norm_ (by first | (simp only [putAll, Act.put, List.setIfInBounds_toArray, List.set_cons_zero, List.set_cons_succ]; done) | (simp only [putAll, Act.put, List.setIfInBounds_toArray, List.set_cons_zero, List.set_cons_succ]; rfl)) (hJ0_9 (e0, w0.heap.size) _ ⟨hHeld, ⟨HBe.out.trans ((below_alloc (Below.refl _ _) _).mono HBe.out.size)⟩, ⟨⟨blk_below H0.out.1 (below_alloc (Below.refl _ _) _), H0.out.2⟩⟩, ⟨⟨blk_new _ _, HBe.out.size⟩⟩, ⟨fun e => by have := blk_lt H0.out.1; omega⟩⟩)
         ·skip
          rintro ⟨e0, g9⟩ w0_9 ⟨hHeld, HBe, H0, H9, H09⟩
          refine norm_ (a' := ?_) ?_ ?_
          rotate_left
          ·simp only [putAll, Act.put, List.setIfInBounds_toArray, List.set_cons_zero, List.set_cons_succ]
           rfl
          refine one_ (i := 3) (N := some 46) #[true, true, true, true, true, true, true, true, true, true, false, false, false] rfl rfl (by kernel_rfl) (by decide) (fun K hK => ?_)
          refine Kd.R_append_rows_step k99 (w0 := w5) w5.heap.size (by rfl) (.tmp 43) (.tmp 45) 28 99 (.agg #[.int .i64 0, .int .i64 0, .string ⟨#[]⟩]) 32 rfl Try.underlying28 info99 rfl (by decide) (by omega) _ [] pd E2 m2 d2 (fun k => w5.heap.size ≤ k) (fun _ => False) rfl rfl (empty_own' H0.out.1 H0.out.2) (Kd.C_below HC2.out HBe.out) (fun x cs h => by rw [k99_open h]; exact k99_mkM _ _ _ x) (fun _ h => h.elim) (fun k hk => Nat.le_trans HBe.out.size hk) HBe.out HBe.out.size (by simp; omega) ?_
          intro v1 w1 hR1 hb1 hg1 hat1
          rw [List.nil_append] at hR1
          obtain ⟨A9, c9, hv1⟩ := Kd.R_slice hR1
          rw [← HM2.out] at hv1
          subst hv1
          refine hK.out _ _ ⟨((hb1.cell (World.block_lt_of_cell? _ _ HK2.out)).trans HK2.out), ((hb1.cell (World.block_lt_of_cell? _ _ HY0.out)).trans HY0.out)⟩ (fun hHeld => ?_)
          clear hK K
          refine norm_ (a' := ?_) ?_ ?_
          rotate_left
          ·show Act.put _ (some 46) _ = _
           simp only [Act.put, List.setIfInBounds_toArray, List.set_cons_zero, List.set_cons_succ, i64_w, i32_w]
           rfl
          exact norm_ (by first | (simp only [putAll, Act.put, List.setIfInBounds_toArray, List.set_cons_zero, List.set_cons_succ]; done) | (simp only [putAll, Act.put, List.setIfInBounds_toArray, List.set_cons_zero, List.set_cons_succ]; rfl)) (hJ0_3_9 (e0, (A9, c9), g9) _ ⟨hHeld, ⟨hb1⟩, ⟨hR1⟩, ⟨⟨(hg1.block g9 (blk_lt H9.out.1) (fun e => H09.out (Option.some.inj e).symm)).trans H9.out.1, H9.out.2⟩⟩⟩)
        ·skip
         rintro ⟨e0, p3⟩ w0_3 ⟨hHeld, HBe, H3⟩
         refine norm_ (a' := ?_) ?_ ?_
         rotate_left
         ·simp only [putAll, Act.put, List.setIfInBounds_toArray, List.set_cons_zero, List.set_cons_succ]
          rfl
         refine one_ (i := 9) (N := some 52) #[true, true, true, true, true, true, true, true, true, true, false, false, false] rfl rfl (by kernel_rfl) (by decide) (fun K hK => ?_)
         refine value_ (w1 := ?_) (v := ?_) (by rfl) rfl ?_ ?_
         rotate_left 2
         ·go_simp
          constructor
          ·rfl
          ·rfl
         refine hK.out _ _ (hold2 (below_alloc (Below.refl _ _) _) hHeld) (fun hHeld => ?_)
         clear hK K
         refine norm_ (a' := ?_) ?_ ?_
         rotate_left
         ·show Act.put _ (some 52) _ = _
          simp only [Act.put, List.setIfInBounds_toArray, List.set_cons_zero, List.set_cons_succ, i64_w, i32_w]
          rfl
         exact norm_ (by first | (simp only [putAll, Act.put, List.setIfInBounds_toArray, List.set_cons_zero, List.set_cons_succ]; done) | (simp only [putAll, Act.put, List.setIfInBounds_toArray, List.set_cons_zero, List.set_cons_succ]; rfl)) (hJ0_3_9 (e0, p3, w0_3.heap.size) _ ⟨hHeld, ⟨HBe.out.trans ((below_alloc (Below.refl _ _) _).mono HBe.out.size)⟩, ⟨Kd.R_below H3.out (below_alloc (Below.refl _ _) _)⟩, ⟨⟨blk_new _ _, HBe.out.size⟩⟩⟩)
       rintro ⟨e0, p3, g9⟩ w0_3_9 ⟨hHeld, HBe, H3, H9⟩
       refine norm_ (a' := ?_) ?_ ?_
       rotate_left
       ·simp only [putAll, Act.put, List.setIfInBounds_toArray, List.set_cons_zero, List.set_cons_succ]
        rfl
       refine last_ (i := 10) (N := some 53) #[true, true, true, true, true, true, true, true, true, true, true, false, false] rfl rfl (by kernel_rfl) (by decide) (fun K hK => ?_)
       refine Kd.R_append_rows_step k99 (w0 := w5) w5.heap.size (by rfl) (.tmp 46) (.tmp 52) 28 99 (.agg #[.int .i64 0, .int .i64 0, .string ⟨#[]⟩]) 32 rfl Try.underlying28 info99 rfl (by decide) (by omega) _ pd [⟨sys, sec, d⟩] (some ⟨g9, 0, none⟩) 1 1 (fun k => w5.heap.size ≤ k) (fun _ => False) rfl rfl H3.out (one99 H9.out.1) (fun x cs h => by rw [k99_open h]; exact k99_mkM _ _ _ x) (fun _ h => h.elim) (fun k hk => Nat.le_trans HBe.out.size hk) HBe.out HBe.out.size (by rw [← HM2.out]; omega) ?_
       intro v1 w8 hR8 hb8 hg8 hat8
       obtain ⟨A8, c8, hv8⟩ := Kd.R_slice hR8
       replace hv8 : v1 = .slice A8 (m2 + 1) c8 := by rw [hv8, List.length_append, ← HM2.out]; rfl
       subst hv8
       have b8 := (hb8.block bx (blk_lt G0.out)).trans G0.out
       have g2 : w8.cell? ⟨bx, 2, none⟩ = some (.slice E2 m2 d2) := by rw [blk_cell b8]; rfl
       have gf : w8.frozen? ⟨bx, 2, none⟩ = false := blk_frozen b8 2
       have B8 := Aside0.mk b8
       have HR8 := Aside0.mk hR8
       have HB8 := Aside0.mk hb8
       clear hR8 hb8 hg8 hat8 b8
       refine hK.out _ _ ?_
       clear hK K
       refine norm_ (a' := ?_) ?_ ?_
       rotate_left
       ·show Act.put _ (some 53) _ = _
        simp only [Act.put, List.setIfInBounds_toArray, List.set_cons_zero, List.set_cons_succ, i64_w, i32_w]
        rfl
       refine pure_ (i := 11) (N := some 54) (v := ?_) (a' := ?_) #[true, true, true, true, true, true, true, true, true, true, true, true, false] rfl rfl (by kernel_rfl) (fun _ _ _ h => h) (Or.inl ⟨by rfl, ?_⟩) ?_ ?_
       rotate_left
       ·intro w'
        go_simp
        with_reducible rfl
       rotate_left
       ·simp only [Act.put, List.setIfInBounds_toArray, List.set_cons_zero, List.set_cons_succ, i64_w, i32_w]
        rfl
       refine last_ (i := 12) (N := none) #[true, true, true, true, true, true, true, true, true, true, true, true, true] rfl rfl (by kernel_rfl) (by decide) (fun K hK => ?_)
       refine skip_ (w1 := ?_) (by rfl) rfl ?_ ?_
       rotate_left
       ·go_simp
        rfl
       refine hK.out _ _ ?_
       clear hK K
       refine done_ (by kernel_rfl) ?_
       obtain ⟨w7, hw7⟩ : ∃ w7, w7 = w8.setCell ⟨bx, 2, none⟩ (.slice A8 (m2 + 1) c8) := ⟨_, rfl⟩
       have hf7 : ∀ k, k ≠ bx → w7.heap[k]? = w8.heap[k]? := fun k hk => by rw [hw7]; exact Below.heap_setCell _ _ _ _ hk
       have g0 : w7.heap[bx]? = some (.cells #[.slice E0 m0 d0, .slice E1 m1 d1, .slice A8 (m2 + 1) c8, .slice E3 m3 d3, .bool ma, .int .i64 gu, .slice E6 m6 d6] 31 (0, 0)) := by rw [hw7]; exact blk_put B8.out 2 _ rfl
       have g1 := (hf7 rb ne2).trans ((HB8.out.block rb (blk_lt G1.out)).trans G1.out)
       have hbx5 := blk_lt G0.out
       have hrx5 := blk_lt G1.out
       have hb7 : Below W.heap.size W w7 := by rw [hw7]; exact (HBW.out.trans (HB8.out.mono HBW.out.size)).setCell (p := ⟨bx, 2, none⟩) LB.out.1 _
       have HF7 := Aside0.mk hf7
       have HX5 := Aside0.mk (show bx < w5.heap.size ∧ rb < w5.heap.size from ⟨hbx5, hrx5⟩)
       rw [← hw7]
       clear hw7 hf7 g2 gf k0 k1 k2 k3 k4 k5 k6 z0 z1 z2 z3 z4 z5 z6 y0 y1 r0 r1 r2 r3 r4 r5 r6 s0 s1 s2 s3 s4 s5 s6 G0 GW HBW hbx5 hrx5 hHeld
       obtain ⟨k0, k1, k2, k3, k4, k5, k6⟩ := cells7 g0
       obtain ⟨z0, z1, z2, z3, z4, z5, z6⟩ := froz7 g0
       obtain ⟨r0, r1, r2, r3, r4, r5, r6⟩ := cells7 g1
       obtain ⟨s0, s1, s2, s3, s4, s5, s6⟩ := froz7 g1
       have G1 := Aside0.mk g1
       have HB7 := Aside0.mk hb7
       clear g0 g1 hb7
       go_wp2_with fail
       have hbC := set7_below HB7.out LB.out.2.2.1 (.slice E0 m0 d0) (.slice E1 m1 d1) (.slice A8 (m2 + 1) c8) (.slice E3 m3 d3) (.bool ma) (.int .i64 gu) (.slice E6 m6 d6)
       refine bodyPost_ret (results_ct rfl _ _ rb 31 #[.slice E0 m0 d0, .slice E1 m1 d1, .slice A8 (m2 + 1) c8, .slice E3 m3 d3, .bool ma, .int .i64 gu, .slice E6 m6 d6] (0, 0) _ rfl (set7_blk G1.out (.slice E0 m0 d0) (.slice E1 m1 d1) (.slice A8 (m2 + 1) c8) (.slice E3 m3 d3) (.bool ma) (.int .i64 gu) (.slice E6 m6 d6)) Try.underlying31 rfl (by kernel_rfl)) rfl ?_
       refine ⟨_, rfl, ?_, hbC⟩
       have hf : ∀ k, k ≠ bx → k ≠ rb → (set7 w7 rb (.slice E0 m0 d0) (.slice E1 m1 d1) (.slice A8 (m2 + 1) c8) (.slice E3 m3 d3) (.bool ma) (.int .i64 gu) (.slice E6 m6 d6)).heap[k]? = w8.heap[k]? := fun k h1 h2 => (set7_far w7 rb (.slice E0 m0 d0) (.slice E1 m1 d1) (.slice A8 (m2 + 1) c8) (.slice E3 m3 d3) (.bool ma) (.int .i64 gu) (.slice E6 m6 d6) k h2).trans (HF7.out k h1)
       have hV := Kd.V_mono (Kd.R_V (base' := 0) (Kd.R_step HR8.out (fun k hk _ => hf k (fun e => by have := HX5.out.1; omega) (fun e => by have := HX5.out.2; omega)))) (ok' := fun k => ok k ∨ W.heap.size ≤ k) (fun k hk => Or.inr (Nat.le_trans (Nat.le_trans LB.out.1 (Nat.le_of_lt HX5.out.1)) hk))
       obtain ⟨gl', gu', gs', x4, x5, hA2⟩ := HR4.out.agg
       have mv : ∀ {α : Type} {d : Kd α} {e : Nat} {u : Value} {ys : List α}, Kd.V d e w45 0 (fun k => (ok k ∧ k < W.heap.size) ∨ w4.heap.size ≤ k) u ys → Kd.V d e (set7 w7 rb (.slice E0 m0 d0) (.slice E1 m1 d1) (.slice A8 (m2 + 1) c8) (.slice E3 m3 d3) (.bool ma) (.int .i64 gu) (.slice E6 m6 d6)) 0 (fun k => ok k ∨ W.heap.size ≤ k) u ys := fun hu =>
        Kd.V_mono (Kd.V_step hu (fun k hk hlt => (hf k (HOK.out k hk).1 (HOK.out k hk).2.1).trans ((HB8.out.block k (by rw [HS5.out]; exact hlt)).trans (HF5.out k (HOK.out k hk).1)))) (fun k hk => (HOK.out k hk).2.2)
       rw [← HS2.out]
       have hp : (pushS S2 ⟨sys, sec, d⟩).pend = pd ++ [⟨sys, sec, d⟩] := by rw [HPD.out]; rfl
       exact ⟨_, _, _, _, _, gl', gu, gs', { hv := by rw [x4]; rfl, h0 := mv hA2.h0, h1 := mv hA2.h1, h2 := by rw [hp]; exact hV, h3 := mv hA2.h3, h6 := mv hA2.h6, fl5 := hA2.fl5, fok := hA2.fok, uok := by injection x5 with _ x5; rw [x5]; exact hA2.uok }⟩
   ·rw [decide_eq_false hin] at HT
    have hu : writeS S sys ep sec d = (2, S) := by unfold writeS; rw [if_pos ⟨HPB.out, hd⟩, if_neg (fun z => hin ⟨z.1, by rw [HEQ0.out]; exact z.2⟩)]
    rw [hu]
    clear hu hd hin
    go_enter Try.func28, Try.ntmps28
    go_wp2_with fail
    obtain ⟨w1, hw1⟩ : ∃ w1, w1 = ((W.alloc (.cells #[.slice A0 n0 c0, .slice A1 n1 c1, .slice A2 n2 c2, .slice A3 n3 c3, .bool fa, .int .i64 fu, .slice A6 n6 c6] 31)).alloc (.cells #[.int .i64 sys, .int .i64 ep] 35)).alloc (.cells #[.slice none 0 0, .slice none 0 0, .slice none 0 0, .slice none 0 0, .bool false, .int .i64 0, .slice none 0 0] 31) := ⟨_, rfl⟩
    obtain ⟨g0, gw, g1, hb1⟩ := three W (.cells #[.slice A0 n0 c0, .slice A1 n1 c1, .slice A2 n2 c2, .slice A3 n3 c3, .bool fa, .int .i64 fu, .slice A6 n6 c6] 31) (.cells #[.int .i64 sys, .int .i64 ep] 35) (.cells #[.slice none 0 0, .slice none 0 0, .slice none 0 0, .slice none 0 0, .bool false, .int .i64 0, .slice none 0 0] 31)
    rw [← hw1] at g0 gw g1 hb1 ⊢
    obtain ⟨bx, hbx⟩ : ∃ bx, bx = W.heap.size := ⟨_, rfl⟩
    obtain ⟨bw, hbw⟩ : ∃ bw, bw = W.heap.size + 1 := ⟨_, rfl⟩
    obtain ⟨rb, hrb⟩ : ∃ rb, rb = W.heap.size + 1 + 1 := ⟨_, rfl⟩
    rw [← hrb] at g1 ⊢
    rw [← hbw] at gw ⊢
    rw [show (Value.pointer (some ⟨W.heap.size, 0, none⟩)) = .pointer (some ⟨bx, 0, none⟩) by rw [hbx]]
    rw [← hbx] at g0
    have hs1 : w1.heap.size = W.heap.size + 1 + 1 + 1 := by rw [hw1]; simp
    have LB := Aside0.mk (show W.heap.size ≤ bx ∧ W.heap.size ≤ bw ∧ W.heap.size ≤ rb ∧ bx ≠ rb ∧ bw ≠ rb ∧ bx ≠ bw ∧ bx < w1.heap.size ∧ rb < w1.heap.size ∧ bw < w1.heap.size from ⟨by omega, by omega, by omega, by omega, by omega, by omega, by omega, by omega, by omega⟩)
    have ne1 : bx ≠ rb := LB.out.2.2.2.1
    have ne2 : rb ≠ bx := fun e => ne1 e.symm
    have HBW := Aside0.mk hb1
    obtain ⟨k0, k1, k2, k3, k4, k5, k6⟩ := cells7 g0
    obtain ⟨z0, z1, z2, z3, z4, z5, z6⟩ := froz7 g0
    have y0 : w1.cell? ⟨bw, 0, none⟩ = some (.int .i64 sys) := by rw [blk_cell gw]; rfl
    have y1 : w1.cell? ⟨bw, 1, none⟩ = some (.int .i64 ep) := by rw [blk_cell gw]; rfl
    obtain ⟨r0, r1, r2, r3, r4, r5, r6⟩ := cells7 g1
    obtain ⟨s0, s1, s2, s3, s4, s5, s6⟩ := froz7 g1
    have G0 := Aside0.mk g0
    have GW := Aside0.mk gw
    have G1 := Aside0.mk g1
    clear g0 gw g1
    clear hw1 hb1 hbx hbw hrb hs1
    refine (HWR.out w1).mono ?_
    rintro e w2 ⟨rfl, hb⟩
    have g0 := blk_below G0.out hb
    have gw := blk_below GW.out hb
    have g1 := blk_below G1.out hb
    have hbw := HBW.out.trans (hb.mono HBW.out.size)
    have SZ12 : w1.heap.size ≤ w2.heap.size := hb.size
    clear k0 k1 k2 k3 k4 k5 k6 z0 z1 z2 z3 z4 z5 z6 y0 y1 r0 r1 r2 r3 r4 r5 r6 s0 s1 s2 s3 s4 s5 s6 G0 GW G1 HBW
    have HBW := Aside0.mk hbw
    obtain ⟨k0, k1, k2, k3, k4, k5, k6⟩ := cells7 g0
    obtain ⟨z0, z1, z2, z3, z4, z5, z6⟩ := froz7 g0
    have y0 : w2.cell? ⟨bw, 0, none⟩ = some (.int .i64 sys) := by rw [blk_cell gw]; rfl
    have y1 : w2.cell? ⟨bw, 1, none⟩ = some (.int .i64 ep) := by rw [blk_cell gw]; rfl
    obtain ⟨r0, r1, r2, r3, r4, r5, r6⟩ := cells7 g1
    obtain ⟨s0, s1, s2, s3, s4, s5, s6⟩ := froz7 g1
    have G0 := Aside0.mk g0
    have GW := Aside0.mk gw
    have G1 := Aside0.mk g1
    clear g0 gw g1
    clear hb hbw
    go_wp2_with fail
    refine (HT.out w2).mono ?_
    rintro e w3 ⟨rfl, hb⟩
    have g0 := blk_below G0.out hb
    have gw := blk_below GW.out hb
    have g1 := blk_below G1.out hb
    have hbw := HBW.out.trans (hb.mono HBW.out.size)
    have SZ23 : w2.heap.size ≤ w3.heap.size := hb.size
    clear k0 k1 k2 k3 k4 k5 k6 z0 z1 z2 z3 z4 z5 z6 y0 y1 r0 r1 r2 r3 r4 r5 r6 s0 s1 s2 s3 s4 s5 s6 G0 GW G1 HBW
    have HBW := Aside0.mk hbw
    obtain ⟨k0, k1, k2, k3, k4, k5, k6⟩ := cells7 g0
    obtain ⟨z0, z1, z2, z3, z4, z5, z6⟩ := froz7 g0
    have y0 : w3.cell? ⟨bw, 0, none⟩ = some (.int .i64 sys) := by rw [blk_cell gw]; rfl
    have y1 : w3.cell? ⟨bw, 1, none⟩ = some (.int .i64 ep) := by rw [blk_cell gw]; rfl
    obtain ⟨r0, r1, r2, r3, r4, r5, r6⟩ := cells7 g1
    obtain ⟨s0, s1, s2, s3, s4, s5, s6⟩ := froz7 g1
    have G0 := Aside0.mk g0
    have GW := Aside0.mk gw
    have G1 := Aside0.mk g1
    clear g0 gw g1
    clear hb hbw
    go_wp2_with fail
    have hbC := set7_below HBW.out LB.out.2.2.1 (.slice A0 n0 c0) (.slice A1 n1 c1) (.slice A2 n2 c2) (.slice A3 n3 c3) (.bool fa) (.int .i64 fu) (.slice A6 n6 c6)
    refine bodyPost_ret (results_ct rfl _ _ rb 31 #[.slice A0 n0 c0, .slice A1 n1 c1, .slice A2 n2 c2, .slice A3 n3 c3, .bool fa, .int .i64 fu, .slice A6 n6 c6] (0, 0) _ rfl (set7_blk G1.out (.slice A0 n0 c0) (.slice A1 n1 c1) (.slice A2 n2 c2) (.slice A3 n3 c3) (.bool fa) (.int .i64 fu) (.slice A6 n6 c6)) Try.underlying31 rfl (by kernel_rfl)) rfl ?_
    refine ⟨_, rfl, ?_, hbC⟩
    exact (HR.out.below hbC).mono (fun k hk _ => Or.inl hk)
  ·have hd2 : ((d.size : Int) != 140) = true := bne_iff_ne.2 (fun z => hd (by omega))
   have hu : writeS S sys ep sec d = (1, S) := by unfold writeS; rw [if_neg (fun z => hd z.2)]
   rw [hu]
   clear hu hd
   go_enter Try.func28, Try.ntmps28
   go_wp2_with fail
   obtain ⟨w1, hw1⟩ : ∃ w1, w1 = ((W.alloc (.cells #[.slice A0 n0 c0, .slice A1 n1 c1, .slice A2 n2 c2, .slice A3 n3 c3, .bool fa, .int .i64 fu, .slice A6 n6 c6] 31)).alloc (.cells #[.int .i64 sys, .int .i64 ep] 35)).alloc (.cells #[.slice none 0 0, .slice none 0 0, .slice none 0 0, .slice none 0 0, .bool false, .int .i64 0, .slice none 0 0] 31) := ⟨_, rfl⟩
   obtain ⟨g0, gw, g1, hb1⟩ := three W (.cells #[.slice A0 n0 c0, .slice A1 n1 c1, .slice A2 n2 c2, .slice A3 n3 c3, .bool fa, .int .i64 fu, .slice A6 n6 c6] 31) (.cells #[.int .i64 sys, .int .i64 ep] 35) (.cells #[.slice none 0 0, .slice none 0 0, .slice none 0 0, .slice none 0 0, .bool false, .int .i64 0, .slice none 0 0] 31)
   rw [← hw1] at g0 gw g1 hb1 ⊢
   obtain ⟨bx, hbx⟩ : ∃ bx, bx = W.heap.size := ⟨_, rfl⟩
   obtain ⟨bw, hbw⟩ : ∃ bw, bw = W.heap.size + 1 := ⟨_, rfl⟩
   obtain ⟨rb, hrb⟩ : ∃ rb, rb = W.heap.size + 1 + 1 := ⟨_, rfl⟩
   rw [← hrb] at g1 ⊢
   rw [← hbw] at gw ⊢
   rw [show (Value.pointer (some ⟨W.heap.size, 0, none⟩)) = .pointer (some ⟨bx, 0, none⟩) by rw [hbx]]
   rw [← hbx] at g0
   have hs1 : w1.heap.size = W.heap.size + 1 + 1 + 1 := by rw [hw1]; simp
   have LB := Aside0.mk (show W.heap.size ≤ bx ∧ W.heap.size ≤ bw ∧ W.heap.size ≤ rb ∧ bx ≠ rb ∧ bw ≠ rb ∧ bx ≠ bw ∧ bx < w1.heap.size ∧ rb < w1.heap.size ∧ bw < w1.heap.size from ⟨by omega, by omega, by omega, by omega, by omega, by omega, by omega, by omega, by omega⟩)
   have ne1 : bx ≠ rb := LB.out.2.2.2.1
   have ne2 : rb ≠ bx := fun e => ne1 e.symm
   have HBW := Aside0.mk hb1
   obtain ⟨k0, k1, k2, k3, k4, k5, k6⟩ := cells7 g0
   obtain ⟨z0, z1, z2, z3, z4, z5, z6⟩ := froz7 g0
   have y0 : w1.cell? ⟨bw, 0, none⟩ = some (.int .i64 sys) := by rw [blk_cell gw]; rfl
   have y1 : w1.cell? ⟨bw, 1, none⟩ = some (.int .i64 ep) := by rw [blk_cell gw]; rfl
   obtain ⟨r0, r1, r2, r3, r4, r5, r6⟩ := cells7 g1
   obtain ⟨s0, s1, s2, s3, s4, s5, s6⟩ := froz7 g1
   have G0 := Aside0.mk g0
   have GW := Aside0.mk gw
   have G1 := Aside0.mk g1
   clear g0 gw g1
   clear hw1 hb1 hbx hbw hrb hs1
   refine (HWR.out w1).mono ?_
   rintro e w2 ⟨rfl, hb⟩
   have g0 := blk_below G0.out hb
   have gw := blk_below GW.out hb
   have g1 := blk_below G1.out hb
   have hbw := HBW.out.trans (hb.mono HBW.out.size)
   have SZ12 : w1.heap.size ≤ w2.heap.size := hb.size
   clear k0 k1 k2 k3 k4 k5 k6 z0 z1 z2 z3 z4 z5 z6 y0 y1 r0 r1 r2 r3 r4 r5 r6 s0 s1 s2 s3 s4 s5 s6 G0 GW G1 HBW
   have HBW := Aside0.mk hbw
   obtain ⟨k0, k1, k2, k3, k4, k5, k6⟩ := cells7 g0
   obtain ⟨z0, z1, z2, z3, z4, z5, z6⟩ := froz7 g0
   have y0 : w2.cell? ⟨bw, 0, none⟩ = some (.int .i64 sys) := by rw [blk_cell gw]; rfl
   have y1 : w2.cell? ⟨bw, 1, none⟩ = some (.int .i64 ep) := by rw [blk_cell gw]; rfl
   obtain ⟨r0, r1, r2, r3, r4, r5, r6⟩ := cells7 g1
   obtain ⟨s0, s1, s2, s3, s4, s5, s6⟩ := froz7 g1
   have G0 := Aside0.mk g0
   have GW := Aside0.mk gw
   have G1 := Aside0.mk g1
   clear g0 gw g1
   clear hb hbw
   go_wp2_with fail
   have hbC := set7_below HBW.out LB.out.2.2.1 (.slice A0 n0 c0) (.slice A1 n1 c1) (.slice A2 n2 c2) (.slice A3 n3 c3) (.bool fa) (.int .i64 fu) (.slice A6 n6 c6)
   refine bodyPost_ret (results_ct rfl _ _ rb 31 #[.slice A0 n0 c0, .slice A1 n1 c1, .slice A2 n2 c2, .slice A3 n3 c3, .bool fa, .int .i64 fu, .slice A6 n6 c6] (0, 0) _ rfl (set7_blk G1.out (.slice A0 n0 c0) (.slice A1 n1 c1) (.slice A2 n2 c2) (.slice A3 n3 c3) (.bool fa) (.int .i64 fu) (.slice A6 n6 c6)) Try.underlying31 rfl (by kernel_rfl)) rfl ?_
   refine ⟨_, rfl, ?_, hbC⟩
   exact (HR.out.below hbC).mono (fun k hk _ => Or.inl hk)
end
end Go.Proofs.Ytflajmgichdhhaa.PG
namespace Go.Proofs.Ytflajmgichdhhaa.PG
open Go.RowKit Go.Proofs.YtflajmgichdhhaaW.PrintWords Go.Proofs.YtflajmgichdhhaaW.PrintLast Go.Proofs.YtflajmgichdhhaaW.PrintMore
set_option linter.unusedVariables false
set_option linter.unusedSimpArgs false
theorem reads_at {w w' : World} {k : IntKind} {nb n : Nat} {xs : List Int} (h : ReadsInt w k (some ⟨nb, 0, none⟩) n xs) (he : w'.heap[nb]? = w.heap[nb]?) : ReadsInt w' k (some ⟨nb, 0, none⟩) n xs := by
 obtain ⟨h1, h2, h3⟩ := h
 refine ⟨h1, h2, fun hn => ?_⟩
 obtain ⟨ad, e, hc⟩ := h3 hn
 refine ⟨ad, e, fun j hj => ?_⟩
 cases e
 rw [← hc j hj, add_plain]
 unfold World.cell?
 rw [he]
theorem blk_set' {w : World} {g : Nat} {t : TypeId} {cs : Array Value} {fr : Nat × Nat} (h : w.heap[g]? = some (.cells cs t fr)) (i : Nat) (u : Value) : (w.setCell ⟨g, i, none⟩ u).heap[g]? = some (.cells (cs.setIfInBounds i u) t fr) := by
 simp [World.setCell, Array.getElem?_modify, h]
theorem blk_ne' {w : World} {g g' : Nat} {t t' : TypeId} {cs cs' : Array Value} {fr fr' : Nat × Nat} (h : w.heap[g]? = some (.cells cs t fr)) (h' : w.heap[g']? = some (.cells cs' t' fr')) (hne : t ≠ t') : g ≠ g' := by
 rintro rfl
 rw [h] at h'
 injection h' with h'
 injection h' with _ ht
 exact hne ht
section
variable {W : World} {ok : Nat → Prop} {v : Value} {S : DevS}
set_option maxRecDepth 100000 in
set_option maxHeartbeats 4000000 in
theorem damage_ref {k : Nat} (hR : RefIs W ok v S) (hF : Fine k S) (sec at_ mask : Int) : Calls Try.prog 34 #[v, .int .i64 sec, .int .i64 at_, .int .u8 mask] W fun e W' => RPost2 ok (damageS S sec at_ mask).1 (damageS S sec at_ mask).2 W e W' := by
 have HF := Aside0.mk hF
 clear hF
 obtain ⟨v0, v1, v2, v3, v6, fl, fu, sv, hA⟩ := id hR
 obtain rfl := hA.hv
 obtain ⟨A0, c0, e0, hl0, hF0⟩ := hA.h0
 obtain ⟨A1, c1, e1, hl1, hF1⟩ := hA.h1
 obtain ⟨A2, c2, e2, hl2, hF2⟩ := hA.h2
 obtain ⟨A3, c3, e3, hl3, hF3⟩ := hA.h3
 obtain ⟨A6, c6, e6, hl6, hF6⟩ := hA.h6
 subst e0 e1 e2 e3 e6
 have HR := Aside0.mk hR
 have HA := Aside0.mk hA
 have HF0 := Aside0.mk hF0
 have HF1 := Aside0.mk hF1
 have HF2 := Aside0.mk hF2
 have HF3 := Aside0.mk hF3
 obtain ⟨n0, hn0⟩ : ∃ n0, n0 = S.stable.length := ⟨_, rfl⟩
 obtain ⟨n1, hn1⟩ : ∃ n1, n1 = S.old.length := ⟨_, rfl⟩
 obtain ⟨n2, hn2⟩ : ∃ n2, n2 = S.pend.length := ⟨_, rfl⟩
 obtain ⟨n3, hn3⟩ : ∃ n3, n3 = fl.length := ⟨_, rfl⟩
 obtain ⟨n6, hn6⟩ : ∃ n6, n6 = sv.length := ⟨_, rfl⟩
 obtain ⟨fa, hfa⟩ : ∃ fa, fa = S.failed := ⟨_, rfl⟩
 have EQ := Aside0.mk (show n0 = S.stable.length ∧ n1 = S.old.length ∧ n2 = S.pend.length ∧ n3 = fl.length ∧ n6 = sv.length ∧ fa = S.failed from ⟨hn0, hn1, hn2, hn3, hn6, hfa⟩)
 rw [← hn0, ← hn1, ← hn2, ← hn3, ← hn6, ← hfa]
 rw [← hn0, ← hn1, ← hn2, ← hn3, ← hn6, ← hfa] at HR
 clear hR hA hF0 hF1 hF2 hF3 hF6 hl0 hl1 hl2 hl3 hl6 hn0 hn1 hn2 hn3 hn6 hfa
 have HT := Aside0.mk (fun (w : World) => show Calls Try.prog 54 #[.agg #[.slice A0 n0 c0, .slice A1 n1 c1, .slice A2 n2 c2, .slice A3 n3 c3, .bool fa, .int .i64 fu, .slice A6 n6 c6], .int .i64 sec] w fun e W' => e = .returned (.bool (decide (0 ≤ sec ∧ sec < (n0 : Int)))) ∧ Below w.heap.size w W' from there_ref w sec)
 unfold RPost2
 by_cases h1 : 0 ≤ sec ∧ sec < (n0 : Int)
 ·rw [decide_eq_true h1] at HT
  by_cases h2 : at_ < 0
  ·have hu : damageS S sec at_ mask = (2, S) := by unfold damageS; rw [if_neg (fun z => by omega)]
   rw [hu]
   have d2 : decide (at_ < 0) = true := decide_eq_true h2
   clear hu h1 h2
   go_enter Try.func34, Try.ntmps34
   go_wp2_with fail
   obtain ⟨w1, hw1⟩ : ∃ w1, w1 = (W.alloc (.cells #[.slice A0 n0 c0, .slice A1 n1 c1, .slice A2 n2 c2, .slice A3 n3 c3, .bool fa, .int .i64 fu, .slice A6 n6 c6] 31)).alloc (.cells #[.slice none 0 0, .slice none 0 0, .slice none 0 0, .slice none 0 0, .bool false, .int .i64 0, .slice none 0 0] 31) := ⟨_, rfl⟩
   have hb1 : Below W.heap.size W w1 := by rw [hw1]; exact below_alloc (below_alloc (Below.refl _ _) _) _
   have hs1 : w1.heap.size = W.heap.size + 1 + 1 := by rw [hw1]; simp
   have f0 : w1.heap[W.heap.size]? = some (.cells #[.slice A0 n0 c0, .slice A1 n1 c1, .slice A2 n2 c2, .slice A3 n3 c3, .bool fa, .int .i64 fu, .slice A6 n6 c6] 31 (0, 0)) := by rw [hw1]; exact blk_below (blk_new _ _) (below_alloc (Below.refl _ _) _)
   have f1 : w1.heap[W.heap.size + 1]? = some (.cells #[.slice none 0 0, .slice none 0 0, .slice none 0 0, .slice none 0 0, .bool false, .int .i64 0, .slice none 0 0] 31 (0, 0)) := by rw [hw1, show W.heap.size + 1 = (W.alloc (.cells #[.slice A0 n0 c0, .slice A1 n1 c1, .slice A2 n2 c2, .slice A3 n3 c3, .bool fa, .int .i64 fu, .slice A6 n6 c6] 31)).heap.size by simp]; exact blk_new _ _
   obtain ⟨bx, hbx⟩ : ∃ bx, bx = W.heap.size := ⟨_, rfl⟩
   obtain ⟨rb, hrb⟩ : ∃ rb, rb = W.heap.size + 1 := ⟨_, rfl⟩
   rw [← hw1, ← hrb]
   rw [show (Value.pointer (some ⟨W.heap.size, 0, none⟩)) = .pointer (some ⟨bx, 0, none⟩) by rw [hbx]]
   rw [← hrb] at f1
   rw [← hbx] at f0
   have LB := Aside0.mk (show W.heap.size ≤ bx ∧ W.heap.size ≤ rb ∧ bx ≠ rb ∧ bx < w1.heap.size ∧ rb < w1.heap.size from ⟨by omega, by omega, by omega, by omega, by omega⟩)
   have F0 := Aside0.mk f0
   have F1 := Aside0.mk f1
   have HB1 := Aside0.mk hb1
   have HS1 := Aside0.mk hs1
   clear hw1 hb1 hs1 f0 f1 hbx hrb
   have HBW := Aside0.mk HB1.out
   refine (HT.out w1).mono ?_
   rintro e w2 ⟨rfl, hb⟩
   have g0 := blk_below F0.out hb
   have g1 := blk_below F1.out hb
   have hbw := HB1.out.trans (hb.mono HB1.out.size)
   obtain ⟨k0, k1, k2, k3, k4, k5, k6⟩ := cells7 g0
   obtain ⟨z0, z1, z2, z3, z4, z5, z6⟩ := froz7 g0
   obtain ⟨r0, r1, r2, r3, r4, r5, r6⟩ := cells7 g1
   obtain ⟨s0, s1, s2, s3, s4, s5, s6⟩ := froz7 g1
   have ne1 : bx ≠ rb := LB.out.2.2.1
   have ne2 : rb ≠ bx := fun e => ne1 e.symm
   have G1 := Aside0.mk g1
   clear g0 g1 hb F0 F1
   go_wp2_with fail
   have hbC := set7_below hbw LB.out.2.1 (.slice A0 n0 c0) (.slice A1 n1 c1) (.slice A2 n2 c2) (.slice A3 n3 c3) (.bool fa) (.int .i64 fu) (.slice A6 n6 c6)
   refine bodyPost_ret (results_ct rfl _ _ rb 31 #[.slice A0 n0 c0, .slice A1 n1 c1, .slice A2 n2 c2, .slice A3 n3 c3, .bool fa, .int .i64 fu, .slice A6 n6 c6] (0, 0) _ rfl (set7_blk G1.out (.slice A0 n0 c0) (.slice A1 n1 c1) (.slice A2 n2 c2) (.slice A3 n3 c3) (.bool fa) (.int .i64 fu) (.slice A6 n6 c6)) Try.underlying31 rfl (by kernel_rfl)) rfl ?_
   refine ⟨_, rfl, ?_, hbC⟩
   exact (HR.out.below hbC).mono (fun k hk _ => Or.inl hk)
  ·have d2 : decide (at_ < 0) = false := decide_eq_false h2
   by_cases h3 : 140 ≤ at_
   ·have hu : damageS S sec at_ mask = (2, S) := by unfold damageS; rw [if_neg (fun z => by omega)]
    rw [hu]
    have d3 : decide (140 ≤ at_) = true := decide_eq_true h3
    clear hu h1 h2 h3
    go_enter Try.func34, Try.ntmps34
    go_wp2_with fail
    obtain ⟨w1, hw1⟩ : ∃ w1, w1 = (W.alloc (.cells #[.slice A0 n0 c0, .slice A1 n1 c1, .slice A2 n2 c2, .slice A3 n3 c3, .bool fa, .int .i64 fu, .slice A6 n6 c6] 31)).alloc (.cells #[.slice none 0 0, .slice none 0 0, .slice none 0 0, .slice none 0 0, .bool false, .int .i64 0, .slice none 0 0] 31) := ⟨_, rfl⟩
    have hb1 : Below W.heap.size W w1 := by rw [hw1]; exact below_alloc (below_alloc (Below.refl _ _) _) _
    have hs1 : w1.heap.size = W.heap.size + 1 + 1 := by rw [hw1]; simp
    have f0 : w1.heap[W.heap.size]? = some (.cells #[.slice A0 n0 c0, .slice A1 n1 c1, .slice A2 n2 c2, .slice A3 n3 c3, .bool fa, .int .i64 fu, .slice A6 n6 c6] 31 (0, 0)) := by rw [hw1]; exact blk_below (blk_new _ _) (below_alloc (Below.refl _ _) _)
    have f1 : w1.heap[W.heap.size + 1]? = some (.cells #[.slice none 0 0, .slice none 0 0, .slice none 0 0, .slice none 0 0, .bool false, .int .i64 0, .slice none 0 0] 31 (0, 0)) := by rw [hw1, show W.heap.size + 1 = (W.alloc (.cells #[.slice A0 n0 c0, .slice A1 n1 c1, .slice A2 n2 c2, .slice A3 n3 c3, .bool fa, .int .i64 fu, .slice A6 n6 c6] 31)).heap.size by simp]; exact blk_new _ _
    obtain ⟨bx, hbx⟩ : ∃ bx, bx = W.heap.size := ⟨_, rfl⟩
    obtain ⟨rb, hrb⟩ : ∃ rb, rb = W.heap.size + 1 := ⟨_, rfl⟩
    rw [← hw1, ← hrb]
    rw [show (Value.pointer (some ⟨W.heap.size, 0, none⟩)) = .pointer (some ⟨bx, 0, none⟩) by rw [hbx]]
    rw [← hrb] at f1
    rw [← hbx] at f0
    have LB := Aside0.mk (show W.heap.size ≤ bx ∧ W.heap.size ≤ rb ∧ bx ≠ rb ∧ bx < w1.heap.size ∧ rb < w1.heap.size from ⟨by omega, by omega, by omega, by omega, by omega⟩)
    have F0 := Aside0.mk f0
    have F1 := Aside0.mk f1
    have HB1 := Aside0.mk hb1
    have HS1 := Aside0.mk hs1
    clear hw1 hb1 hs1 f0 f1 hbx hrb
    have HBW := Aside0.mk HB1.out
    refine (HT.out w1).mono ?_
    rintro e w2 ⟨rfl, hb⟩
    have g0 := blk_below F0.out hb
    have g1 := blk_below F1.out hb
    have hbw := HB1.out.trans (hb.mono HB1.out.size)
    obtain ⟨k0, k1, k2, k3, k4, k5, k6⟩ := cells7 g0
    obtain ⟨z0, z1, z2, z3, z4, z5, z6⟩ := froz7 g0
    obtain ⟨r0, r1, r2, r3, r4, r5, r6⟩ := cells7 g1
    obtain ⟨s0, s1, s2, s3, s4, s5, s6⟩ := froz7 g1
    have ne1 : bx ≠ rb := LB.out.2.2.1
    have ne2 : rb ≠ bx := fun e => ne1 e.symm
    have G1 := Aside0.mk g1
    clear g0 g1 hb F0 F1
    go_wp2_with fail
    have hbC := set7_below hbw LB.out.2.1 (.slice A0 n0 c0) (.slice A1 n1 c1) (.slice A2 n2 c2) (.slice A3 n3 c3) (.bool fa) (.int .i64 fu) (.slice A6 n6 c6)
    refine bodyPost_ret (results_ct rfl _ _ rb 31 #[.slice A0 n0 c0, .slice A1 n1 c1, .slice A2 n2 c2, .slice A3 n3 c3, .bool fa, .int .i64 fu, .slice A6 n6 c6] (0, 0) _ rfl (set7_blk G1.out (.slice A0 n0 c0) (.slice A1 n1 c1) (.slice A2 n2 c2) (.slice A3 n3 c3) (.bool fa) (.int .i64 fu) (.slice A6 n6 c6)) Try.underlying31 rfl (by kernel_rfl)) rfl ?_
    refine ⟨_, rfl, ?_, hbC⟩
    exact (HR.out.below hbC).mono (fun k hk _ => Or.inl hk)
   ·have d3 : decide (140 ≤ at_) = false := decide_eq_false h3
    by_cases h4 : mask = 0
    ·have hu : damageS S sec at_ mask = (1, S) := by unfold damageS; rw [if_pos ⟨⟨h1.1, by have := EQ.out.1; omega⟩, by omega, by omega⟩, if_pos h4]
     rw [hu]
     have d4 : (mask == 0) = true := by rw [h4]; rfl
     clear hu h1 h2 h3 h4
     go_enter Try.func34, Try.ntmps34
     go_wp2_with fail
     obtain ⟨w1, hw1⟩ : ∃ w1, w1 = (W.alloc (.cells #[.slice A0 n0 c0, .slice A1 n1 c1, .slice A2 n2 c2, .slice A3 n3 c3, .bool fa, .int .i64 fu, .slice A6 n6 c6] 31)).alloc (.cells #[.slice none 0 0, .slice none 0 0, .slice none 0 0, .slice none 0 0, .bool false, .int .i64 0, .slice none 0 0] 31) := ⟨_, rfl⟩
     have hb1 : Below W.heap.size W w1 := by rw [hw1]; exact below_alloc (below_alloc (Below.refl _ _) _) _
     have hs1 : w1.heap.size = W.heap.size + 1 + 1 := by rw [hw1]; simp
     have f0 : w1.heap[W.heap.size]? = some (.cells #[.slice A0 n0 c0, .slice A1 n1 c1, .slice A2 n2 c2, .slice A3 n3 c3, .bool fa, .int .i64 fu, .slice A6 n6 c6] 31 (0, 0)) := by rw [hw1]; exact blk_below (blk_new _ _) (below_alloc (Below.refl _ _) _)
     have f1 : w1.heap[W.heap.size + 1]? = some (.cells #[.slice none 0 0, .slice none 0 0, .slice none 0 0, .slice none 0 0, .bool false, .int .i64 0, .slice none 0 0] 31 (0, 0)) := by rw [hw1, show W.heap.size + 1 = (W.alloc (.cells #[.slice A0 n0 c0, .slice A1 n1 c1, .slice A2 n2 c2, .slice A3 n3 c3, .bool fa, .int .i64 fu, .slice A6 n6 c6] 31)).heap.size by simp]; exact blk_new _ _
     obtain ⟨bx, hbx⟩ : ∃ bx, bx = W.heap.size := ⟨_, rfl⟩
     obtain ⟨rb, hrb⟩ : ∃ rb, rb = W.heap.size + 1 := ⟨_, rfl⟩
     rw [← hw1, ← hrb]
     rw [show (Value.pointer (some ⟨W.heap.size, 0, none⟩)) = .pointer (some ⟨bx, 0, none⟩) by rw [hbx]]
     rw [← hrb] at f1
     rw [← hbx] at f0
     have LB := Aside0.mk (show W.heap.size ≤ bx ∧ W.heap.size ≤ rb ∧ bx ≠ rb ∧ bx < w1.heap.size ∧ rb < w1.heap.size from ⟨by omega, by omega, by omega, by omega, by omega⟩)
     have F0 := Aside0.mk f0
     have F1 := Aside0.mk f1
     have HB1 := Aside0.mk hb1
     have HS1 := Aside0.mk hs1
     clear hw1 hb1 hs1 f0 f1 hbx hrb
     have HBW := Aside0.mk HB1.out
     refine (HT.out w1).mono ?_
     rintro e w2 ⟨rfl, hb⟩
     have g0 := blk_below F0.out hb
     have g1 := blk_below F1.out hb
     have hbw := HB1.out.trans (hb.mono HB1.out.size)
     obtain ⟨k0, k1, k2, k3, k4, k5, k6⟩ := cells7 g0
     obtain ⟨z0, z1, z2, z3, z4, z5, z6⟩ := froz7 g0
     obtain ⟨r0, r1, r2, r3, r4, r5, r6⟩ := cells7 g1
     obtain ⟨s0, s1, s2, s3, s4, s5, s6⟩ := froz7 g1
     have ne1 : bx ≠ rb := LB.out.2.2.1
     have ne2 : rb ≠ bx := fun e => ne1 e.symm
     have G1 := Aside0.mk g1
     clear g0 g1 hb F0 F1
     go_wp2_with fail
     have hbC := set7_below hbw LB.out.2.1 (.slice A0 n0 c0) (.slice A1 n1 c1) (.slice A2 n2 c2) (.slice A3 n3 c3) (.bool fa) (.int .i64 fu) (.slice A6 n6 c6)
     refine bodyPost_ret (results_ct rfl _ _ rb 31 #[.slice A0 n0 c0, .slice A1 n1 c1, .slice A2 n2 c2, .slice A3 n3 c3, .bool fa, .int .i64 fu, .slice A6 n6 c6] (0, 0) _ rfl (set7_blk G1.out (.slice A0 n0 c0) (.slice A1 n1 c1) (.slice A2 n2 c2) (.slice A3 n3 c3) (.bool fa) (.int .i64 fu) (.slice A6 n6 c6)) Try.underlying31 rfl (by kernel_rfl)) rfl ?_
     refine ⟨_, rfl, ?_, hbC⟩
     exact (HR.out.below hbC).mono (fun k hk _ => Or.inl hk)
    ·have d4 : (mask == 0) = false := beq_eq_false_iff_ne.2 h4
     obtain ⟨i, rfl⟩ := Int.eq_ofNat_of_zero_le h1.1
     obtain ⟨a, rfl⟩ := Int.eq_ofNat_of_zero_le (show 0 ≤ at_ by omega)
     have hin : i < n0 := by omega
     have hinS : i < S.stable.length := by have := EQ.out.1; omega
     have hu : damageS S (i : Int) (a : Int) mask = (0, { S with stable := S.stable.set i (damB (S.stable.getD i ⟨#[]⟩) a mask) }) := by
      unfold damageS
      rw [Int.toNat_natCast, Int.toNat_natCast, if_pos ⟨⟨h1.1, by have := EQ.out.1; omega⟩, by omega, by omega⟩, if_neg h4]
     rw [hu]
     have hsz : (S.stable.getD i ⟨#[]⟩).size = 140 := HF.out.size _ (getD_mem _ _ _ hinS)
     obtain ⟨ad, ea, x0⟩ := Kd.at_string (Kd.F_now HF0.out) (i : Int) (by omega) (by have := EQ.out.1; omega)
     rw [Int.toNat_natCast, show rdOf ByteArray.empty S.stable (i : Int) = S.stable.getD i ⟨#[]⟩ by unfold rdOf; rw [Int.toNat_natCast]; rfl] at x0
     obtain ⟨x, hx⟩ : ∃ x, x = S.stable.getD i ⟨#[]⟩ := ⟨_, rfl⟩
     rw [← hx] at x0 hsz ⊢
     obtain ⟨y, hy⟩ : ∃ y, y = damB x a mask := ⟨_, rfl⟩
     rw [← hy]
     have HY := Aside0.mk hy
     clear hy
     subst ea
     have hinz : (i : Int) < (n0 : Int) := by omega
     have hnm : n0 ≤ 1155 := by have := HF.out.n1; have := EQ.out.1; omega
     have hax : a < x.size := by omega
     have haz : (a : Int) < (x.size : Int) := by omega
     have hxl : (x.size : Int) ≤ 140 := by omega
     have HSZ := Aside0.mk hsz
     have X0 := Aside0.mk x0
     clear hu h1 h2 h3 h4 hx hsz x0
     go_enter Try.func34, Try.ntmps34
     go_wp2_with fail
     obtain ⟨w1, hw1⟩ : ∃ w1, w1 = (W.alloc (.cells #[.slice (some ad) n0 c0, .slice A1 n1 c1, .slice A2 n2 c2, .slice A3 n3 c3, .bool fa, .int .i64 fu, .slice A6 n6 c6] 31)).alloc (.cells #[.slice none 0 0, .slice none 0 0, .slice none 0 0, .slice none 0 0, .bool false, .int .i64 0, .slice none 0 0] 31) := ⟨_, rfl⟩
     have hb1 : Below W.heap.size W w1 := by rw [hw1]; exact below_alloc (below_alloc (Below.refl _ _) _) _
     have hs1 : w1.heap.size = W.heap.size + 1 + 1 := by rw [hw1]; simp
     have f0 : w1.heap[W.heap.size]? = some (.cells #[.slice (some ad) n0 c0, .slice A1 n1 c1, .slice A2 n2 c2, .slice A3 n3 c3, .bool fa, .int .i64 fu, .slice A6 n6 c6] 31 (0, 0)) := by rw [hw1]; exact blk_below (blk_new _ _) (below_alloc (Below.refl _ _) _)
     have f1 : w1.heap[W.heap.size + 1]? = some (.cells #[.slice none 0 0, .slice none 0 0, .slice none 0 0, .slice none 0 0, .bool false, .int .i64 0, .slice none 0 0] 31 (0, 0)) := by rw [hw1, show W.heap.size + 1 = (W.alloc (.cells #[.slice (some ad) n0 c0, .slice A1 n1 c1, .slice A2 n2 c2, .slice A3 n3 c3, .bool fa, .int .i64 fu, .slice A6 n6 c6] 31)).heap.size by simp]; exact blk_new _ _
     obtain ⟨bx, hbx⟩ : ∃ bx, bx = W.heap.size := ⟨_, rfl⟩
     obtain ⟨rb, hrb⟩ : ∃ rb, rb = W.heap.size + 1 := ⟨_, rfl⟩
     rw [← hw1, ← hrb]
     rw [show (Value.pointer (some ⟨W.heap.size, 0, none⟩)) = .pointer (some ⟨bx, 0, none⟩) by rw [hbx]]
     rw [← hrb] at f1
     rw [← hbx] at f0
     have LB := Aside0.mk (show W.heap.size ≤ bx ∧ W.heap.size ≤ rb ∧ bx ≠ rb ∧ bx < w1.heap.size ∧ rb < w1.heap.size from ⟨by omega, by omega, by omega, by omega, by omega⟩)
     have F0 := Aside0.mk f0
     have F1 := Aside0.mk f1
     have HB1 := Aside0.mk hb1
     have HS1 := Aside0.mk hs1
     clear hw1 hb1 hs1 f0 f1 hbx hrb
     have HBW := Aside0.mk HB1.out
     refine (HT.out w1).mono ?_
     rintro e w2 ⟨rfl, hb⟩
     have g0 := blk_below F0.out hb
     have g1 := blk_below F1.out hb
     have hbw := HB1.out.trans (hb.mono HB1.out.size)
     obtain ⟨k0, k1, k2, k3, k4, k5, k6⟩ := cells7 g0
     obtain ⟨z0, z1, z2, z3, z4, z5, z6⟩ := froz7 g0
     obtain ⟨r0, r1, r2, r3, r4, r5, r6⟩ := cells7 g1
     obtain ⟨s0, s1, s2, s3, s4, s5, s6⟩ := froz7 g1
     have ne1 : bx ≠ rb := LB.out.2.2.1
     have ne2 : rb ≠ bx := fun e => ne1 e.symm
     have lbx := blk_lt g0
     have HBW := Aside0.mk hbw
     have HX0 := Aside0.mk (show ad.block < W.heap.size from by have := World.block_lt_of_cell? _ _ X0.out; unfold Addr.add at this; split at this <;> exact this)
     have x0 := (hbw.cell (World.block_lt_of_cell? _ _ X0.out)).trans X0.out
     obtain ⟨nb, hnb⟩ : ∃ nb, nb = w2.heap.size := ⟨_, rfl⟩
     have hcv := print_bytes (P := Try.prog) 9 87 5 Try.underlying9 Try.underlying87 Try.underlying5 x w2
     obtain ⟨w5, hw5⟩ : ∃ w5, w5 = Lib.bytesWorld w2 5 x := ⟨_, rfl⟩
     have hb5 : Below w2.heap.size w2 w5 := by rw [hw5]; exact bytes_below (Below.refl _ _) (Nat.le_refl _) 5 x
     have hx5 := Lib.bytesWorld_at_new w2 5 x
     have q5' := Lib.bytesWorld_cell w2 5 x a hax
     have hr5 := bytes_reads w2 5 x (by omega)
     have hl5 := Lib.bytesWorld_size w2 5 x
     rw [← hw5] at hx5 q5' hr5 hcv hl5
     obtain ⟨b, hbb⟩ : ∃ b, b = (x.data.toList.getD a 0) := ⟨_, rfl⟩
     have q5 : w5.cell? ⟨w2.heap.size, a, none⟩ = some (.int .u8 (b.toNat : Int)) := by rw [hbb]; exact q5'
     have g5 : w5.frozen? ⟨w2.heap.size, a, none⟩ = false := by
      unfold World.frozen?
      rw [hx5]
      show (decide (_ ≤ a) && _) = false
      have : ¬ (Lib.bytesCells w2 5 x).size ≤ a := by unfold Lib.bytesCells; simp; have : x.data.size = x.size := rfl; omega
      rw [decide_eq_false this]; rfl
     obtain ⟨gc, hgc⟩ : ∃ gc, gc = grownCap w2 x.size 0 5 := ⟨_, rfl⟩
     rw [← hgc] at hcv
     rw [← hnb] at hcv hx5 q5 g5 hr5 hl5
     have jb1 : nb ≠ bx := by have := lbx; omega
     have jb2 : nb ≠ rb := by have := blk_lt g1; omega
     have jb3 : W.heap.size ≤ nb := by rw [hnb]; exact hbw.size
     have hb0 : (0 : Int) ≤ (b.toNat : Int) := by omega
     have hb1' : (b.toNat : Int) < 256 := by have := b.toNat_lt; omega
     have HCV := Aside0.mk (show bits BinOp.xor IntKind.u8 (((x.data.toList.getD a 0).toNat : Nat) : Int) mask = bits BinOp.xor IntKind.u8 (b.toNat : Int) mask from by rw [hbb])
     have G0 := Aside0.mk (blk_below g0 hb5)
     have G1 := Aside0.mk (blk_below g1 hb5)
     have HB5 := Aside0.mk (hbw.trans (hb5.mono hbw.size))
     have HNB := Aside0.mk hx5
     have HRD := Aside0.mk (reads_put hr5 a hax (bits BinOp.xor IntKind.u8 (b.toNat : Int) mask))
     have HL5 := Aside0.mk (show nb < w5.heap.size from by omega)
     clear g0 g1 lbx hb hbw hb5 hx5 q5' hr5 hl5 hbb hgc hw5 hnb F0 F1
     go_upto_region 7 with (fail)
     obtain ⟨w6, hw6⟩ : ∃ w6, w6 = w5.setCell ⟨nb, a, none⟩ (.int .u8 (bits BinOp.xor IntKind.u8 (b.toNat : Int) mask)) := ⟨_, rfl⟩
     have hf6 : ∀ k, k ≠ nb → w6.heap[k]? = w5.heap[k]? := fun k hk => by rw [hw6]; exact Below.heap_setCell _ _ _ _ hk
     have g0 := (hf6 bx jb1.symm).trans G0.out
     have g1 := (hf6 rb jb2.symm).trans G1.out
     have hbw := HB5.out.setCell (p := ⟨nb, a, none⟩) jb3 (.int .u8 (bits BinOp.xor IntKind.u8 (b.toNat : Int) mask))
     have hnb6 := blk_set' HNB.out a (.int .u8 (bits BinOp.xor IntKind.u8 (b.toNat : Int) mask))
     have hrd6 := HRD.out
     have hl6 : nb < w6.heap.size := by have := HL5.out; rw [hw6]; simpa [World.setCell] using this
     rw [← hw6] at hbw hnb6 hrd6
     rw [← hw6]
     have HBW := Aside0.mk hbw
     clear k0 k1 k2 k3 k4 k5 k6 z0 z1 z2 z3 z4 z5 z6 r0 r1 r2 r3 r4 r5 r6 s0 s1 s2 s3 s4 s5 s6 q5 g5 x0 hcv
     obtain ⟨k0, k1, k2, k3, k4, k5, k6⟩ := cells7 g0
     obtain ⟨z0, z1, z2, z3, z4, z5, z6⟩ := froz7 g0
     obtain ⟨r0, r1, r2, r3, r4, r5, r6⟩ := cells7 g1
     obtain ⟨s0, s1, s2, s3, s4, s5, s6⟩ := froz7 g1
     have ne1 : bx ≠ rb := LB.out.2.2.1
     have ne2 : rb ≠ bx := fun e => ne1 e.symm
     have G0 := Aside0.mk g0
     have G1 := Aside0.mk g1
     have HNB := Aside0.mk hnb6
     have lbx := blk_lt g0
     have HRD := Aside0.mk hrd6
     clear hw6 hf6 g0 g1 hbw hnb6 hrd6 HB5 HL5
     go_wp2_with (at_builtin; with_reducible refine stopHere ?_)
     obtain ⟨e0, he0⟩ : ∃ e0, e0 = w6.heap.size := ⟨_, rfl⟩
     obtain ⟨w3, hw3⟩ : ∃ w3, w3 = w6.alloc (.cells #[] 9) := ⟨_, rfl⟩
     have hb3 : Below w6.heap.size w6 w3 := by rw [hw3]; exact below_alloc (Below.refl _ _) _
     have f2 : w3.heap[e0]? = some (.cells #[] 9 (0, 0)) := by rw [hw3, he0]; exact blk_new _ _
     rw [← he0, ← hw3]
     have f0 := blk_below G0.out hb3
     have f1 := blk_below G1.out hb3
     have fn := blk_below HNB.out hb3
     have fb := HBW.out.trans (hb3.mono HBW.out.size)
     have hle0 : W.heap.size ≤ e0 := by rw [he0]; exact HBW.out.size
     have je0 : bx ≠ e0 := fun e => by have := blk_lt G0.out; omega
     have je1 : rb ≠ e0 := fun e => by have := blk_lt G1.out; omega
     have je2 : nb ≠ e0 := fun e => by omega
     have HRD3 := Aside0.mk (reads_at HRD.out (hb3.block nb hl6))
     clear hw3 he0 hb3 G0 G1 HNB k0 k1 k2 k3 k4 k5 k6 z0 z1 z2 z3 z4 z5 z6 r0 r1 r2 r3 r4 r5 r6 s0 s1 s2 s3 s4 s5 s6 HRD hl6 lbx
     refine ⟨?_⟩
     refine Kd.R_append_rows Kd.string (w0 := W) W.heap.size rfl (.tmp 42) (.tmp 44) 26 9 (.string ⟨#[]⟩) 16 rfl Try.underlying26 info9 rfl (by decide) (by omega) _ [] S.stable (some ad) n0 c0 (fun k => W.heap.size ≤ k) (fun _ => False) rfl rfl (empty_own' f2 hle0) (by rw [EQ.out.1]; exact Kd.C_below (Kd.F_now HF0.out) fb) (fun _ _ h => h) (fun _ h => h.elim) (fun k hk => Nat.le_trans fb.size hk) fb fb.size (by simp; omega) ?_
     intro v1 w4 hR1 hb4 hg4 hat4
     rw [List.nil_append] at hR1
     obtain ⟨g1, cap1, cur1, hv1, hge1, hh1, hle1, hmx1, hcur1⟩ := own_open hR1 (by have := EQ.out.1; omega)
     rw [← EQ.out.1] at hv1 hle1
     subst hv1
     have f0 := (hg4.block bx (blk_lt f0) (fun e => je0 (Option.some.inj e))).trans f0
     have f1 := (hg4.block rb (blk_lt f1) (fun e => je1 (Option.some.inj e))).trans f1
     have en4 := hg4.block nb (blk_lt fn) (fun e => je2 (Option.some.inj e))
     have HRD4 := Aside0.mk (reads_at HRD3.out en4)
     have fn := en4.trans fn
     obtain ⟨k0, k1, k2, k3, k4, k5, k6⟩ := cells7 f0
     obtain ⟨z0, z1, z2, z3, z4, z5, z6⟩ := froz7 f0
     obtain ⟨r0, r1, r2, r3, r4, r5, r6⟩ := cells7 f1
     obtain ⟨s0, s1, s2, s3, s4, s5, s6⟩ := froz7 f1
     have ne3 : g1 ≠ bx := blk_ne hh1 f0 (by decide)
     have ne4 : bx ≠ g1 := fun e => ne3 e.symm
     have ne6 : rb ≠ g1 := blk_ne f1 hh1 (by decide)
     have ne7 : g1 ≠ rb := fun e => ne6 e.symm
     have ne8 : nb ≠ g1 := blk_ne' fn hh1 (by decide)
     have F0 := Aside0.mk f0
     have F1 := Aside0.mk f1
     have H1 := Aside0.mk hh1
     have HB4 := Aside0.mk hb4
     have HCU := Aside0.mk hcur1
     have L1 := Aside0.mk (show W.heap.size ≤ g1 from hge1)
     have HL1 := Aside0.mk hle1
     clear f0 f1 f2 fb fn en4 hle0 je0 je1 je2 hR1 hb4 hg4 hat4 hh1 hge1 hmx1 hcur1 HRD3
     go_upto_region 8 with (fail)
     obtain ⟨w7, hw7⟩ : ∃ w7, w7 = w4.setCell ⟨bx, 0, none⟩ (.slice (some ⟨g1, 0, none⟩) n0 cap1) := ⟨_, rfl⟩
     have hf7 : ∀ k, k ≠ bx → w7.heap[k]? = w4.heap[k]? := fun k hk => by rw [hw7]; exact Below.heap_setCell _ _ _ _ hk
     have b7 : w7.heap[bx]? = some (.cells #[.slice (some ⟨g1, 0, none⟩) n0 cap1, .slice A1 n1 c1, .slice A2 n2 c2, .slice A3 n3 c3, .bool fa, .int .i64 fu, .slice A6 n6 c6] 31 (0, 0)) := by rw [hw7]; exact blk_put F0.out 0 _ rfl
     have hr7 := (hf7 rb ne2).trans F1.out
     have h7 := (hf7 g1 ne3).trans H1.out
     have hb7 : Below W.heap.size W w7 := by rw [hw7]; exact HB4.out.setCell (p := ⟨bx, 0, none⟩) LB.out.1 _
     have hrd7 := reads_at HRD4.out (hf7 nb jb1)
     rw [← hw7]
     clear hw7 hf7 k0 k1 k2 k3 k4 k5 k6 z0 z1 z2 z3 z4 z5 z6 r0 r1 r2 r3 r4 r5 r6 s0 s1 s2 s3 s4 s5 s6
     obtain ⟨k0, k1, k2, k3, k4, k5, k6⟩ := cells7 b7
     obtain ⟨z0, z1, z2, z3, z4, z5, z6⟩ := froz7 b7
     obtain ⟨r0, r1, r2, r3, r4, r5, r6⟩ := cells7 hr7
     obtain ⟨s0, s1, s2, s3, s4, s5, s6⟩ := froz7 hr7
     have q7 : ∃ u, w7.cell? ⟨g1, i, none⟩ = some u := ⟨_, by rw [blk_cell h7]; exact HCU.out i _ (List.getElem?_eq_getElem (by have := EQ.out.1; omega))⟩
     obtain ⟨u7, q7⟩ := q7
     have q8 : w7.frozen? ⟨g1, i, none⟩ = false := blk_frozen h7 i
     have hcv2 : (convert 87 9 (.slice (some ⟨nb, 0, none⟩) x.size gc)).run Try.prog w7 = .ok (.string y) w7 := by
      have h := string_of_reads (P := Try.prog) (src := 87) (dst := 9) (c := gc) Try.underlying87 Try.underlying5 Try.underlying9 hrd7
      rw [HY.out]
      unfold damB
      rw [HCV.out]
      exact h
     have B7 := Aside0.mk b7
     have R7 := Aside0.mk hr7
     have H7 := Aside0.mk h7
     have HB7 := Aside0.mk hb7
     clear b7 hr7 h7 hb7 F0 F1 H1 HB4 hrd7 HRD4
     go_wp2_with fail
     obtain ⟨wB, hwB⟩ : ∃ wB, wB = w7.setCell ⟨g1, i, none⟩ (.string y) := ⟨_, rfl⟩
     have hB1 : wB.heap[rb]? = some (.cells #[.slice none 0 0, .slice none 0 0, .slice none 0 0, .slice none 0 0, .bool false, .int .i64 0, .slice none 0 0] 31 (0, 0)) := by rw [hwB]; exact (Below.heap_setCell _ _ _ _ ne6).trans R7.out
     have hBg : wB.heap[g1]? = some (.cells (cur1.setIfInBounds i (.string y)) 9 (0, 0)) := by rw [hwB]; exact blk_put H7.out i _ rfl
     have hbB : Below W.heap.size W wB := by rw [hwB]; exact HB7.out.setCell (p := ⟨g1, i, none⟩) L1.out _
     have hbC := set7_below hbB LB.out.2.1 (.slice (some ⟨g1, 0, none⟩) n0 cap1) (.slice A1 n1 c1) (.slice A2 n2 c2) (.slice A3 n3 c3) (.bool fa) (.int .i64 fu) (.slice A6 n6 c6)
     have hxC := set7_blk hB1 (.slice (some ⟨g1, 0, none⟩) n0 cap1) (.slice A1 n1 c1) (.slice A2 n2 c2) (.slice A3 n3 c3) (.bool fa) (.int .i64 fu) (.slice A6 n6 c6)
     have hgC : (set7 wB rb (.slice (some ⟨g1, 0, none⟩) n0 cap1) (.slice A1 n1 c1) (.slice A2 n2 c2) (.slice A3 n3 c3) (.bool fa) (.int .i64 fu) (.slice A6 n6 c6)).heap[g1]? = some (.cells (cur1.setIfInBounds i (.string y)) 9 (0, 0)) := (set7_far wB rb (.slice (some ⟨g1, 0, none⟩) n0 cap1) (.slice A1 n1 c1) (.slice A2 n2 c2) (.slice A3 n3 c3) (.bool fa) (.int .i64 fu) (.slice A6 n6 c6) g1 ne7).trans hBg
     obtain ⟨wC, hwC⟩ : ∃ wC, wC = set7 wB rb (.slice (some ⟨g1, 0, none⟩) n0 cap1) (.slice A1 n1 c1) (.slice A2 n2 c2) (.slice A3 n3 c3) (.bool fa) (.int .i64 fu) (.slice A6 n6 c6) := ⟨_, rfl⟩
     rw [← hwC] at hbC hxC hgC
     unfold set7 at hwC
     rw [← hwB, ← hwC]
     clear hwC hwB hbB hB1 hBg
     refine bodyPost_ret (results_ct rfl _ _ rb 31 #[.slice (some ⟨g1, 0, none⟩) n0 cap1, .slice A1 n1 c1, .slice A2 n2 c2, .slice A3 n3 c3, .bool fa, .int .i64 fu, .slice A6 n6 c6] (0, 0) _ rfl hxC Try.underlying31 rfl (by kernel_rfl)) rfl ?_
     refine ⟨_, rfl, ?_, hbC⟩
     have mv : ∀ {α : Type} {d : Kd α} {e : Nat} {u : Value} {xs : List α}, Kd.V d e W 0 ok u xs → Kd.V d e wC 0 (fun k => ok k ∨ W.heap.size ≤ k) u xs := fun hu => Kd.V_mono (Kd.V_below hu hbC) (fun k hk => Or.inl hk)
     obtain ⟨t0, t1, t2, t3, t4, t5⟩ := EQ.out
     have hV := scal_V (enc := Value.string) (h1 := fun _ => rfl) (cap := cap1) (xs := S.stable.set i y) hgC (by simp; omega) (by have := HL1.out; simp; omega) (set_cur Value.string HCU.out i (by omega) y _ rfl)
     rw [List.length_set, ← t0] at hV
     have hA := HA.out
     rw [← t1, ← t2, ← t3, ← t4] at hA
     have hfin : RefIs wC (fun k => ok k ∨ W.heap.size ≤ k) (.agg #[.slice (some ⟨g1, 0, none⟩) n0 cap1, .slice A1 n1 c1, .slice A2 n2 c2, .slice A3 n3 c3, .bool fa, .int .i64 fu, .slice A6 n6 c6]) { S with stable := S.stable.set i y } := ⟨_, _, _, _, _, fl, fu, sv, { hv := by rw [← t5], h0 := Kd.V_mono hV (fun k hk => by rw [hk]; exact Or.inr L1.out), h1 := mv hA.h1, h2 := mv hA.h2, h3 := mv hA.h3, h6 := mv hA.h6, fl5 := hA.fl5, fok := hA.fok, uok := hA.uok }⟩
     exact hfin
 ·rw [decide_eq_false h1] at HT
  have hu : damageS S sec at_ mask = (2, S) := by unfold damageS; rw [if_neg (fun z => h1 ⟨z.1.1, by have := EQ.out.1; omega⟩)]
  rw [hu]
  clear hu h1
  go_enter Try.func34, Try.ntmps34
  go_wp2_with fail
  obtain ⟨w1, hw1⟩ : ∃ w1, w1 = (W.alloc (.cells #[.slice A0 n0 c0, .slice A1 n1 c1, .slice A2 n2 c2, .slice A3 n3 c3, .bool fa, .int .i64 fu, .slice A6 n6 c6] 31)).alloc (.cells #[.slice none 0 0, .slice none 0 0, .slice none 0 0, .slice none 0 0, .bool false, .int .i64 0, .slice none 0 0] 31) := ⟨_, rfl⟩
  have hb1 : Below W.heap.size W w1 := by rw [hw1]; exact below_alloc (below_alloc (Below.refl _ _) _) _
  have hs1 : w1.heap.size = W.heap.size + 1 + 1 := by rw [hw1]; simp
  have f0 : w1.heap[W.heap.size]? = some (.cells #[.slice A0 n0 c0, .slice A1 n1 c1, .slice A2 n2 c2, .slice A3 n3 c3, .bool fa, .int .i64 fu, .slice A6 n6 c6] 31 (0, 0)) := by rw [hw1]; exact blk_below (blk_new _ _) (below_alloc (Below.refl _ _) _)
  have f1 : w1.heap[W.heap.size + 1]? = some (.cells #[.slice none 0 0, .slice none 0 0, .slice none 0 0, .slice none 0 0, .bool false, .int .i64 0, .slice none 0 0] 31 (0, 0)) := by rw [hw1, show W.heap.size + 1 = (W.alloc (.cells #[.slice A0 n0 c0, .slice A1 n1 c1, .slice A2 n2 c2, .slice A3 n3 c3, .bool fa, .int .i64 fu, .slice A6 n6 c6] 31)).heap.size by simp]; exact blk_new _ _
  obtain ⟨bx, hbx⟩ : ∃ bx, bx = W.heap.size := ⟨_, rfl⟩
  obtain ⟨rb, hrb⟩ : ∃ rb, rb = W.heap.size + 1 := ⟨_, rfl⟩
  rw [← hw1, ← hrb]
  rw [show (Value.pointer (some ⟨W.heap.size, 0, none⟩)) = .pointer (some ⟨bx, 0, none⟩) by rw [hbx]]
  rw [← hrb] at f1
  rw [← hbx] at f0
  have LB := Aside0.mk (show W.heap.size ≤ bx ∧ W.heap.size ≤ rb ∧ bx ≠ rb ∧ bx < w1.heap.size ∧ rb < w1.heap.size from ⟨by omega, by omega, by omega, by omega, by omega⟩)
  have F0 := Aside0.mk f0
  have F1 := Aside0.mk f1
  have HB1 := Aside0.mk hb1
  have HS1 := Aside0.mk hs1
  clear hw1 hb1 hs1 f0 f1 hbx hrb
  have HBW := Aside0.mk HB1.out
  refine (HT.out w1).mono ?_
  rintro e w2 ⟨rfl, hb⟩
  have g0 := blk_below F0.out hb
  have g1 := blk_below F1.out hb
  have hbw := HB1.out.trans (hb.mono HB1.out.size)
  obtain ⟨k0, k1, k2, k3, k4, k5, k6⟩ := cells7 g0
  obtain ⟨z0, z1, z2, z3, z4, z5, z6⟩ := froz7 g0
  obtain ⟨r0, r1, r2, r3, r4, r5, r6⟩ := cells7 g1
  obtain ⟨s0, s1, s2, s3, s4, s5, s6⟩ := froz7 g1
  have ne1 : bx ≠ rb := LB.out.2.2.1
  have ne2 : rb ≠ bx := fun e => ne1 e.symm
  have G1 := Aside0.mk g1
  clear g0 g1 hb F0 F1
  go_wp2_with fail
  have hbC := set7_below hbw LB.out.2.1 (.slice A0 n0 c0) (.slice A1 n1 c1) (.slice A2 n2 c2) (.slice A3 n3 c3) (.bool fa) (.int .i64 fu) (.slice A6 n6 c6)
  refine bodyPost_ret (results_ct rfl _ _ rb 31 #[.slice A0 n0 c0, .slice A1 n1 c1, .slice A2 n2 c2, .slice A3 n3 c3, .bool fa, .int .i64 fu, .slice A6 n6 c6] (0, 0) _ rfl (set7_blk G1.out (.slice A0 n0 c0) (.slice A1 n1 c1) (.slice A2 n2 c2) (.slice A3 n3 c3) (.bool fa) (.int .i64 fu) (.slice A6 n6 c6)) Try.underlying31 rfl (by kernel_rfl)) rfl ?_
  refine ⟨_, rfl, ?_, hbC⟩
  exact (HR.out.below hbC).mono (fun k hk _ => Or.inl hk)
end
end Go.Proofs.Ytflajmgichdhhaa.PG
namespace Go.Proofs.Ytflajmgichdhhaa.PG
open Go.RowKit Go.Proofs.YtflajmgichdhhaaW.PrintWords Go.Proofs.YtflajmgichdhhaaW.PrintLast Go.Proofs.YtflajmgichdhhaaW.PrintMore
set_option linter.unusedVariables false
set_option linter.unusedSimpArgs false
def fenceL (fl : List Int) (s : Nat) (ep : Int) : List Int := if 0 ≤ ep ∧ fl.getD s 0 ≤ ep then fl.set s (min ep 1099511627776 + 1) else fl
theorem fence_at (S : DevS) (s : Nat) (h1 : 1 ≤ s) (h4 : s ≤ 4) (ep a : Int) : (fenceS S s ep).fences a = if a = s ∧ (∀ f, S.fences s = some f → f < ep) then some ep else S.fences a := by
 unfold fenceS
 rw [if_neg (by omega)]
 cases hf : S.fences (s : Int) with
 | none =>
  rw [if_pos rfl]
  show (if a = (s : Int) then some ep else S.fences a) = _
  by_cases e : a = (s : Int)
  ·rw [if_pos e, if_pos ⟨e, fun f z => by cases z⟩]
  ·rw [if_neg e, if_neg (fun z => e z.1)]
 | some f =>
  by_cases hd : f < ep
  ·simp only [hd, decide_true, if_true]
   by_cases e : a = (s : Int)
   ·rw [if_pos e, if_pos ⟨e, fun f' z => by cases z; exact hd⟩]
   ·rw [if_neg e, if_neg (fun z => e z.1)]
  ·simp only [hd, decide_false]
   rw [if_neg (by simp), if_neg (fun z => hd (z.2 f rfl))]
theorem fok_fence {fl : List Int} {S : DevS} (h : FencesOk fl S.fences) (hl : fl.length = 5) (s : Nat) (h1 : 1 ≤ s) (h4 : s ≤ 4) (ep : Int) : FencesOk (fenceL fl s ep) (fenceS S s ep).fences := by
 intro t t1 t4
 obtain ⟨a, b, c⟩ := h t t1 t4
 unfold fenceL
 by_cases hc : 0 ≤ ep ∧ fl.getD s 0 ≤ ep
 ·rw [if_pos hc]
  by_cases e : s = t
  ·subst e
   have hg : (fl.set s (min ep 1099511627776 + 1)).getD s 0 = min ep 1099511627776 + 1 := by
    rw [List.getD_eq_getElem?_getD, List.getElem?_set, if_pos rfl, if_pos (by omega)]; rfl
   rw [hg]
   refine ⟨by omega, by omega, fun x x0 x1 => ?_⟩
   rw [fence_at S s h1 h4]
   by_cases hq : ∀ f, S.fences s = some f → f < ep
   ·rw [if_pos ⟨rfl, hq⟩]
    exact ⟨fun z => ⟨ep, rfl, by omega⟩, fun ⟨f, z, y⟩ => by cases z; omega⟩
   ·rw [if_neg (fun z => hq z.2)]
    rw [← c x x0 x1]
    have hf : ∃ f, S.fences s = some f ∧ ep ≤ f := by
     cases hx : S.fences (s : Int) with
     | none => exact absurd (fun f z => by rw [hx] at z; cases z) hq
     | some f => exact ⟨f, rfl, by
       by_cases hh : f < ep
       ·exact absurd (fun f' z => by rw [hx] at z; cases z; exact hh) hq
       ·omega⟩
    by_cases hep : ep ≤ 1099511627776
    ·have := (c ep hc.1 hep).2 hf
     omega
    ·have := (c 1099511627776 (by decide) (by decide)).2 (by obtain ⟨f, z, y⟩ := hf; exact ⟨f, z, by omega⟩)
     constructor <;> intro _ <;> omega
  ·have hg : (fl.set s (min ep 1099511627776 + 1)).getD t 0 = fl.getD t 0 := by
    rw [List.getD_eq_getElem?_getD, List.getElem?_set, if_neg e, List.getD_eq_getElem?_getD]
   rw [hg]
   refine ⟨a, b, fun x x0 x1 => ?_⟩
   rw [fence_at S s h1 h4, if_neg (fun z => e (by have := z.1; omega))]
   exact c x x0 x1
 ·rw [if_neg hc]
  refine ⟨a, b, fun x x0 x1 => ?_⟩
  rw [fence_at S s h1 h4]
  by_cases e : (t : Int) = s ∧ (∀ f, S.fences s = some f → f < ep)
  ·rw [if_pos e]
   have ets : t = s := by have := e.1; omega
   subst ets
   rw [c x x0 x1]
   constructor
   ·rintro ⟨f, z, y⟩
    have := e.2 f z
    exact ⟨ep, rfl, by omega⟩
   ·rintro ⟨f, z, y⟩
    cases z
    have hn : ¬ fl.getD t 0 ≤ ep := fun z => hc ⟨by omega, z⟩
    exact (c x x0 x1).1 (by omega)
  ·rw [if_neg e]
   exact c x x0 x1
end Go.Proofs.Ytflajmgichdhhaa.PG
namespace Go.Proofs.Ytflajmgichdhhaa.PG
open Go.RowKit Go.Proofs.YtflajmgichdhhaaW.PrintWords Go.Proofs.YtflajmgichdhhaaW.PrintLast Go.Proofs.YtflajmgichdhhaaW.PrintMore
set_option linter.unusedVariables false
set_option linter.unusedSimpArgs false
theorem fence_same (S : DevS) (sys ep : Int) : (fenceS S sys ep).stable = S.stable ∧ (fenceS S sys ep).old = S.old ∧ (fenceS S sys ep).pend = S.pend ∧ (fenceS S sys ep).failed = S.failed ∧ (fenceS S sys ep).fset = S.fset ∧ (fenceS S sys ep).left = S.left ∧ (fenceS S sys ep).surv = S.surv := by
 unfold fenceS
 split
 ·exact ⟨rfl, rfl, rfl, rfl, rfl, rfl, rfl⟩
 ·split
  all_goals split
  all_goals exact ⟨rfl, rfl, rfl, rfl, rfl, rfl, rfl⟩
section
variable {W : World} {ok : Nat → Prop} {v : Value} {S : DevS}
attribute [local go_sem] max2_int min2_int max_two min_two
set_option maxRecDepth 100000 in
set_option maxHeartbeats 4000000 in
theorem fence_ref (hR : RefIs W ok v S) (sys ep : Int) : Calls Try.prog 31 #[v, .int .i64 sys, .int .i64 ep] W fun e W' => RChPost ok (fenceS S sys ep) W e W' := by
 obtain ⟨v0, v1, v2, v3, v6, fl, fu, sv, hA⟩ := id hR
 obtain rfl := hA.hv
 obtain ⟨A0, c0, e0, hl0, hF0⟩ := hA.h0
 obtain ⟨A1, c1, e1, hl1, hF1⟩ := hA.h1
 obtain ⟨A2, c2, e2, hl2, hF2⟩ := hA.h2
 obtain ⟨A3, c3, e3, hl3, hF3⟩ := hA.h3
 obtain ⟨A6, c6, e6, hl6, hF6⟩ := hA.h6
 subst e0 e1 e2 e3 e6
 have HR := Aside0.mk hR
 have HA := Aside0.mk hA
 have HF0 := Aside0.mk hF0
 have HF1 := Aside0.mk hF1
 have HF2 := Aside0.mk hF2
 have HF3 := Aside0.mk hF3
 obtain ⟨n0, hn0⟩ : ∃ n0, n0 = S.stable.length := ⟨_, rfl⟩
 obtain ⟨n1, hn1⟩ : ∃ n1, n1 = S.old.length := ⟨_, rfl⟩
 obtain ⟨n2, hn2⟩ : ∃ n2, n2 = S.pend.length := ⟨_, rfl⟩
 obtain ⟨n3, hn3⟩ : ∃ n3, n3 = fl.length := ⟨_, rfl⟩
 obtain ⟨n6, hn6⟩ : ∃ n6, n6 = sv.length := ⟨_, rfl⟩
 obtain ⟨fa, hfa⟩ : ∃ fa, fa = S.failed := ⟨_, rfl⟩
 have EQ := Aside0.mk (show n0 = S.stable.length ∧ n1 = S.old.length ∧ n2 = S.pend.length ∧ n3 = fl.length ∧ n6 = sv.length ∧ fa = S.failed from ⟨hn0, hn1, hn2, hn3, hn6, hfa⟩)
 rw [← hn0, ← hn1, ← hn2, ← hn3, ← hn6, ← hfa]
 rw [← hn0, ← hn1, ← hn2, ← hn3, ← hn6, ← hfa] at HR
 clear hR hA hF0 hF1 hF2 hF3 hF6 hl0 hl1 hl2 hl3 hl6 hn0 hn1 hn2 hn3 hn6 hfa
 by_cases hs : sys < 1 ∨ 4 < sys
 ·have hu : fenceS S sys ep = S := by unfold fenceS; rw [if_pos hs]
  rw [hu]
  have ways : (decide (sys < 1) = true) ∨ (decide (sys < 1) = false ∧ decide (4 < sys) = true) := by
   by_cases h : sys < 1
   ·exact Or.inl (decide_eq_true h)
   ·exact Or.inr ⟨decide_eq_false h, decide_eq_true (hs.resolve_left h)⟩
  clear hu hs
  rcases ways with d1 | ⟨d1, d2⟩
  ·go_enter Try.func31, Try.ntmps31
   go_wp2_with fail
   have hx2 : ((W.alloc (.cells #[.slice A0 n0 c0, .slice A1 n1 c1, .slice A2 n2 c2, .slice A3 n3 c3, .bool fa, .int .i64 fu, .slice A6 n6 c6] 31)).alloc (.cells #[.slice A0 n0 c0, .slice A1 n1 c1, .slice A2 n2 c2, .slice A3 n3 c3, .bool fa, .int .i64 fu, .slice A6 n6 c6] 31)).heap[W.heap.size + 1]? = some (.cells #[.slice A0 n0 c0, .slice A1 n1 c1, .slice A2 n2 c2, .slice A3 n3 c3, .bool fa, .int .i64 fu, .slice A6 n6 c6] 31 (0, 0)) := by
    rw [show W.heap.size + 1 = (W.alloc (.cells #[.slice A0 n0 c0, .slice A1 n1 c1, .slice A2 n2 c2, .slice A3 n3 c3, .bool fa, .int .i64 fu, .slice A6 n6 c6] 31)).heap.size by simp]; exact blk_new _ _
   have hb2 : Below W.heap.size W ((W.alloc (.cells #[.slice A0 n0 c0, .slice A1 n1 c1, .slice A2 n2 c2, .slice A3 n3 c3, .bool fa, .int .i64 fu, .slice A6 n6 c6] 31)).alloc (.cells #[.slice A0 n0 c0, .slice A1 n1 c1, .slice A2 n2 c2, .slice A3 n3 c3, .bool fa, .int .i64 fu, .slice A6 n6 c6] 31)) := below_alloc (below_alloc (Below.refl _ _) _) _
   refine bodyPost_ret (results_c rfl _ _ (W.heap.size + 1) 31 #[.slice A0 n0 c0, .slice A1 n1 c1, .slice A2 n2 c2, .slice A3 n3 c3, .bool fa, .int .i64 fu, .slice A6 n6 c6] (0, 0) _ rfl hx2 Try.underlying31 rfl (by kernel_rfl)) rfl ?_
   refine ⟨_, rfl, ?_, hb2⟩
   exact (HR.out.below hb2).mono (fun k hk _ => Or.inl hk)
  ·go_enter Try.func31, Try.ntmps31
   go_wp2_with fail
   have hx2 : ((W.alloc (.cells #[.slice A0 n0 c0, .slice A1 n1 c1, .slice A2 n2 c2, .slice A3 n3 c3, .bool fa, .int .i64 fu, .slice A6 n6 c6] 31)).alloc (.cells #[.slice A0 n0 c0, .slice A1 n1 c1, .slice A2 n2 c2, .slice A3 n3 c3, .bool fa, .int .i64 fu, .slice A6 n6 c6] 31)).heap[W.heap.size + 1]? = some (.cells #[.slice A0 n0 c0, .slice A1 n1 c1, .slice A2 n2 c2, .slice A3 n3 c3, .bool fa, .int .i64 fu, .slice A6 n6 c6] 31 (0, 0)) := by
    rw [show W.heap.size + 1 = (W.alloc (.cells #[.slice A0 n0 c0, .slice A1 n1 c1, .slice A2 n2 c2, .slice A3 n3 c3, .bool fa, .int .i64 fu, .slice A6 n6 c6] 31)).heap.size by simp]; exact blk_new _ _
   have hb2 : Below W.heap.size W ((W.alloc (.cells #[.slice A0 n0 c0, .slice A1 n1 c1, .slice A2 n2 c2, .slice A3 n3 c3, .bool fa, .int .i64 fu, .slice A6 n6 c6] 31)).alloc (.cells #[.slice A0 n0 c0, .slice A1 n1 c1, .slice A2 n2 c2, .slice A3 n3 c3, .bool fa, .int .i64 fu, .slice A6 n6 c6] 31)) := below_alloc (below_alloc (Below.refl _ _) _) _
   refine bodyPost_ret (results_c rfl _ _ (W.heap.size + 1) 31 #[.slice A0 n0 c0, .slice A1 n1 c1, .slice A2 n2 c2, .slice A3 n3 c3, .bool fa, .int .i64 fu, .slice A6 n6 c6] (0, 0) _ rfl hx2 Try.underlying31 rfl (by kernel_rfl)) rfl ?_
   refine ⟨_, rfl, ?_, hb2⟩
   exact (HR.out.below hb2).mono (fun k hk _ => Or.inl hk)
 ·have d1 : decide (sys < 1) = false := decide_eq_false (fun h => hs (Or.inl h))
  have d2 : decide (4 < sys) = false := decide_eq_false (fun h => hs (Or.inr h))
  obtain ⟨s, rfl⟩ := Int.eq_ofNat_of_zero_le (show 0 ≤ sys by omega)
  have hs1 : 1 ≤ s := by omega
  have hs4 : s ≤ 4 := by omega
  clear hs
  have hfo := fok_fence HA.out.fok HA.out.fl5 s hs1 hs4 ep
  by_cases hep : ep < 0
  ·have hde : decide (ep < 0) = true := decide_eq_true hep
   have hfl : fenceL fl s ep = fl := by unfold fenceL; rw [if_neg (by omega)]
   rw [hfl] at hfo
   have HFO := Aside0.mk hfo
   clear hep hfl hfo
   go_enter Try.func31, Try.ntmps31
   go_wp2_with fail
   have hx2 : ((W.alloc (.cells #[.slice A0 n0 c0, .slice A1 n1 c1, .slice A2 n2 c2, .slice A3 n3 c3, .bool fa, .int .i64 fu, .slice A6 n6 c6] 31)).alloc (.cells #[.slice A0 n0 c0, .slice A1 n1 c1, .slice A2 n2 c2, .slice A3 n3 c3, .bool fa, .int .i64 fu, .slice A6 n6 c6] 31)).heap[W.heap.size + 1]? = some (.cells #[.slice A0 n0 c0, .slice A1 n1 c1, .slice A2 n2 c2, .slice A3 n3 c3, .bool fa, .int .i64 fu, .slice A6 n6 c6] 31 (0, 0)) := by
    rw [show W.heap.size + 1 = (W.alloc (.cells #[.slice A0 n0 c0, .slice A1 n1 c1, .slice A2 n2 c2, .slice A3 n3 c3, .bool fa, .int .i64 fu, .slice A6 n6 c6] 31)).heap.size by simp]; exact blk_new _ _
   have hb2 : Below W.heap.size W ((W.alloc (.cells #[.slice A0 n0 c0, .slice A1 n1 c1, .slice A2 n2 c2, .slice A3 n3 c3, .bool fa, .int .i64 fu, .slice A6 n6 c6] 31)).alloc (.cells #[.slice A0 n0 c0, .slice A1 n1 c1, .slice A2 n2 c2, .slice A3 n3 c3, .bool fa, .int .i64 fu, .slice A6 n6 c6] 31)) := below_alloc (below_alloc (Below.refl _ _) _) _
   refine bodyPost_ret (results_c rfl _ _ (W.heap.size + 1) 31 #[.slice A0 n0 c0, .slice A1 n1 c1, .slice A2 n2 c2, .slice A3 n3 c3, .bool fa, .int .i64 fu, .slice A6 n6 c6] (0, 0) _ rfl hx2 Try.underlying31 rfl (by kernel_rfl)) rfl ?_
   refine ⟨_, rfl, ?_, hb2⟩
   obtain ⟨rfl, rfl, rfl, rfl, rfl, rfl⟩ := EQ.out
   obtain ⟨p1, p2, p3, p4, p5, p6, p7⟩ := fence_same S s ep
   exact HA.out.re hb2 _ fu _ p1 p2 p3 p4.symm HFO.out ⟨(fun z => HA.out.uok.1 (by rw [← p5]; exact z)), (fun z => by obtain ⟨y1, y2⟩ := HA.out.uok.2 (by rw [← p5]; exact z); exact ⟨y1.trans p6.symm, y2.trans p7.symm⟩)⟩
  ·have hde : decide (ep < 0) = false := decide_eq_false hep
   have HFO := Aside0.mk hfo
   have HEP := Aside0.mk hep
   have hn3 : n3 = 5 := by rw [EQ.out.2.2.2.1]; exact HA.out.fl5
   have HN3 := Aside0.mk hn3
   have hsn : (s : Int) < (n3 : Int) := by omega
   have hsn1 : s < n3 := by omega
   clear hep hfo hn3
   go_enter Try.func31, Try.ntmps31
   go_wp2_with (at_builtin; with_reducible refine stopHere ?_)
   obtain ⟨f0, f1, f2, fb⟩ := three W (.cells #[.slice A0 n0 c0, .slice A1 n1 c1, .slice A2 n2 c2, .slice A3 n3 c3, .bool fa, .int .i64 fu, .slice A6 n6 c6] 31) (.cells #[.slice none 0 0, .slice none 0 0, .slice none 0 0, .slice none 0 0, .bool false, .int .i64 0, .slice none 0 0] 31) (.cells #[] 3)
   obtain ⟨w3, hw3⟩ : ∃ w3, w3 = ((W.alloc (.cells #[.slice A0 n0 c0, .slice A1 n1 c1, .slice A2 n2 c2, .slice A3 n3 c3, .bool fa, .int .i64 fu, .slice A6 n6 c6] 31)).alloc (.cells #[.slice none 0 0, .slice none 0 0, .slice none 0 0, .slice none 0 0, .bool false, .int .i64 0, .slice none 0 0] 31)).alloc (.cells #[] 3) := ⟨_, rfl⟩
   rw [← hw3] at f0 f1 f2 fb ⊢
   obtain ⟨bx, hbx⟩ : ∃ bx, bx = W.heap.size := ⟨_, rfl⟩
   obtain ⟨rb, hrb⟩ : ∃ rb, rb = W.heap.size + 1 := ⟨_, rfl⟩
   obtain ⟨e0, he0⟩ : ∃ e0, e0 = W.heap.size + 1 + 1 := ⟨_, rfl⟩
   rw [← he0] at f2 ⊢
   rw [← hrb] at f1 ⊢
   rw [show (Value.pointer (some ⟨W.heap.size, 0, none⟩)) = .pointer (some ⟨bx, 0, none⟩) by rw [hbx]]
   rw [← hbx] at f0
   have LB := Aside0.mk (show W.heap.size ≤ bx ∧ W.heap.size ≤ rb ∧ W.heap.size ≤ e0 ∧ bx ≠ rb ∧ bx ≠ e0 ∧ rb ≠ e0 from ⟨by omega, by omega, by omega, by omega, by omega, by omega⟩)
   clear hw3 hbx hrb he0
   refine ⟨?_⟩
   refine Kd.R_append_rows (Kd.int .i64) (w0 := W) W.heap.size rfl (.tmp 18) (.tmp 20) 29 3 (.int .i64 0) 8 rfl Try.underlying29 info3 rfl (by decide) (by omega) _ [] fl A3 n3 c3 (fun k => W.heap.size ≤ k) (fun _ => False) rfl rfl (empty_own' f2 LB.out.2.2.1) (by rw [EQ.out.2.2.2.1]; exact Kd.C_below (Kd.F_now HF3.out) fb) (fun _ _ h => h) (fun _ h => h.elim) (fun k hk => Nat.le_trans fb.size hk) fb fb.size (by have := HN3.out; simp; omega) ?_
   intro v1 w4 hR1 hb4 hg4 hat4
   rw [List.nil_append] at hR1
   obtain ⟨g1, cap1, cur1, hv1, hge1, hh1, hle1, hmx1, hcur1⟩ := own_open hR1 (by have := HA.out.fl5; omega)
   rw [← EQ.out.2.2.2.1] at hv1 hle1
   subst hv1
   have f0 : w4.heap[bx]? = some (.cells #[.slice A0 n0 c0, .slice A1 n1 c1, .slice A2 n2 c2, .slice A3 n3 c3, .bool fa, .int .i64 fu, .slice A6 n6 c6] 31 (0, 0)) := (hg4.block bx (blk_lt f0) (fun e => LB.out.2.2.2.2.1 (Option.some.inj e))).trans f0
   have f1 : w4.heap[rb]? = some (.cells #[.slice none 0 0, .slice none 0 0, .slice none 0 0, .slice none 0 0, .bool false, .int .i64 0, .slice none 0 0] 31 (0, 0)) := (hg4.block rb (blk_lt f1) (fun e => LB.out.2.2.2.2.2 (Option.some.inj e))).trans f1
   obtain ⟨k0, k1, k2, k3, k4, k5, k6⟩ := cells7 f0
   obtain ⟨z0, z1, z2, z3, z4, z5, z6⟩ := froz7 f0
   obtain ⟨r0, r1, r2, r3, r4, r5, r6⟩ := cells7 f1
   obtain ⟨s0, s1, s2, s3, s4, s5, s6⟩ := froz7 f1
   obtain ⟨x, hx⟩ : ∃ x, x = fl.getD s 0 := ⟨_, rfl⟩
   have hfx : fl[s]? = some x := by rw [hx, List.getD_eq_getElem?_getD, List.getElem?_eq_getElem (by have := HA.out.fl5; omega)]; rfl
   have y0 : w4.cell? ⟨g1, s, none⟩ = some (.int .i64 x) := by rw [blk_cell hh1]; exact hcur1 s x hfx
   have yz : w4.frozen? ⟨g1, s, none⟩ = false := blk_frozen hh1 s
   have ne1 : bx ≠ rb := LB.out.2.2.2.1
   have ne2 : rb ≠ bx := fun e => ne1 e.symm
   have ne3 : g1 ≠ bx := blk_ne hh1 f0 (by decide)
   have ne4 : bx ≠ g1 := fun e => ne3 e.symm
   have ne5 : g1 ≠ rb := blk_ne hh1 f1 (by decide)
   have ne6 : rb ≠ g1 := fun e => ne5 e.symm
   have F0 := Aside0.mk f0
   have F1 := Aside0.mk f1
   have H1 := Aside0.mk hh1
   have HX := Aside0.mk hx
   have HB4 := Aside0.mk hb4
   have HCU := Aside0.mk hcur1
   have L1 := Aside0.mk (show W.heap.size ≤ g1 from hge1)
   have HL1 := Aside0.mk hle1
   clear f0 f1 f2 fb hR1 hb4 hg4 hat4 hx hfx hh1 hge1 hmx1 hcur1
   by_cases hxe : x ≤ ep
   ·have hxd : decide (x ≤ ep) = true := decide_eq_true hxe
    have HXE := Aside0.mk hxe
    by_cases hM : 1099511627776 < ep
    ·have hfl : fenceL fl s ep = fl.set s 1099511627777 := by unfold fenceL; rw [if_pos ⟨by have := HEP.out; omega, by rw [← HX.out]; exact hxe⟩]; congr 1; omega
     rw [hfl] at HFO
     have hM2 : ¬ ep < 1099511627776 := by omega
     clear hfl hxe
     go_wp2_with fail
     obtain ⟨wB, hwB⟩ : ∃ wB, wB = ((w4.setCell ⟨bx, 3, none⟩ (.slice (some ⟨g1, 0, none⟩) n3 cap1)).setCell ⟨g1, s, none⟩ (.int .i64 (1099511627777))) := ⟨_, rfl⟩
     have hfB : ∀ k, k ≠ bx → k ≠ g1 → wB.heap[k]? = w4.heap[k]? := fun k h1 h2 => by rw [hwB]; exact (Below.heap_setCell _ _ _ _ h2).trans (Below.heap_setCell _ _ _ _ h1)
     have hB1 : wB.heap[rb]? = some (.cells #[.slice none 0 0, .slice none 0 0, .slice none 0 0, .slice none 0 0, .bool false, .int .i64 0, .slice none 0 0] 31 (0, 0)) := (hfB rb ne2 ne6).trans F1.out
     have hBg : wB.heap[g1]? = some (.cells (cur1.setIfInBounds s (.int .i64 (1099511627777))) 3 (0, 0)) := by rw [hwB]; exact blk_put ((Below.heap_setCell _ _ _ _ ne3).trans H1.out) s _ rfl
     have hbB : Below W.heap.size W wB := by rw [hwB]; exact (HB4.out.setCell (p := ⟨bx, 3, none⟩) LB.out.1 _).setCell (p := ⟨g1, s, none⟩) L1.out _
     have hbC := set7_below hbB LB.out.2.1 (.slice A0 n0 c0) (.slice A1 n1 c1) (.slice A2 n2 c2) (.slice (some ⟨g1, 0, none⟩) n3 cap1) (.bool fa) (.int .i64 fu) (.slice A6 n6 c6)
     rw [← hwB]
     refine bodyPost_ret (results_c rfl _ _ rb 31 #[.slice A0 n0 c0, .slice A1 n1 c1, .slice A2 n2 c2, .slice (some ⟨g1, 0, none⟩) n3 cap1, .bool fa, .int .i64 fu, .slice A6 n6 c6] (0, 0) _ rfl (set7_blk hB1 (.slice A0 n0 c0) (.slice A1 n1 c1) (.slice A2 n2 c2) (.slice (some ⟨g1, 0, none⟩) n3 cap1) (.bool fa) (.int .i64 fu) (.slice A6 n6 c6)) Try.underlying31 rfl (by kernel_rfl)) rfl ?_
     refine ⟨_, rfl, ?_, hbC⟩
     have mv : ∀ {α : Type} {d : Kd α} {e : Nat} {u : Value} {xs : List α}, Kd.V d e W 0 ok u xs → Kd.V d e (set7 wB rb (.slice A0 n0 c0) (.slice A1 n1 c1) (.slice A2 n2 c2) (.slice (some ⟨g1, 0, none⟩) n3 cap1) (.bool fa) (.int .i64 fu) (.slice A6 n6 c6)) 0 (fun k => ok k ∨ W.heap.size ≤ k) u xs := fun hu => Kd.V_mono (Kd.V_below hu hbC) (fun k hk => Or.inl hk)
     have hg7 := (set7_far wB rb (.slice A0 n0 c0) (.slice A1 n1 c1) (.slice A2 n2 c2) (.slice (some ⟨g1, 0, none⟩) n3 cap1) (.bool fa) (.int .i64 fu) (.slice A6 n6 c6) g1 ne5).trans hBg
     have hln := HA.out.fl5
     have hn5 := HN3.out
     have hV := scal_V (enc := Value.int .i64) (h1 := fun _ => rfl) (cap := cap1) (xs := fl.set s (1099511627777)) hg7 (by first | (simp; omega) | omega) (by have := HL1.out; first | (simp; omega) | omega) (set_cur (Value.int .i64) HCU.out s (by omega) _ _ rfl)
     obtain ⟨t0, t1, t2, t3, t4, t5⟩ := EQ.out
     rw [List.length_set, ← t3] at hV
     have hA := HA.out
     rw [← t0, ← t1, ← t2, ← t4] at hA
     obtain ⟨p1, p2, p3, p4, p5, p6, p7⟩ := fence_same S s ep
     exact ⟨_, _, _, _, _, fl.set s (1099511627777), fu, sv, { hv := by rw [p4, ← t5], h0 := by rw [p1]; exact mv hA.h0, h1 := by rw [p2]; exact mv hA.h1, h2 := by rw [p3]; exact mv hA.h2, h3 := Kd.V_mono hV (fun k hk => by rw [hk]; exact Or.inr L1.out), h6 := mv hA.h6, fl5 := by rw [List.length_set]; exact hln, fok := HFO.out, uok := ⟨(fun z => hA.uok.1 (by rw [← p5]; exact z)), (fun z => by obtain ⟨y1, y2⟩ := hA.uok.2 (by rw [← p5]; exact z); exact ⟨y1.trans p6.symm, y2.trans p7.symm⟩)⟩ }⟩
    ·have hfl : fenceL fl s ep = fl.set s (ep + 1) := by unfold fenceL; rw [if_pos ⟨by have := HEP.out; omega, by rw [← HX.out]; exact hxe⟩]; congr 1; omega
     rw [hfl] at HFO
     have hM3 : ep ≤ 1099511627776 := by omega
     have hM4 : 0 ≤ ep := by have := HEP.out; omega
     clear hfl hxe
     go_wp2_with fail
     obtain ⟨wB, hwB⟩ : ∃ wB, wB = ((w4.setCell ⟨bx, 3, none⟩ (.slice (some ⟨g1, 0, none⟩) n3 cap1)).setCell ⟨g1, s, none⟩ (.int .i64 (ep + 1))) := ⟨_, rfl⟩
     have hfB : ∀ k, k ≠ bx → k ≠ g1 → wB.heap[k]? = w4.heap[k]? := fun k h1 h2 => by rw [hwB]; exact (Below.heap_setCell _ _ _ _ h2).trans (Below.heap_setCell _ _ _ _ h1)
     have hB1 : wB.heap[rb]? = some (.cells #[.slice none 0 0, .slice none 0 0, .slice none 0 0, .slice none 0 0, .bool false, .int .i64 0, .slice none 0 0] 31 (0, 0)) := (hfB rb ne2 ne6).trans F1.out
     have hBg : wB.heap[g1]? = some (.cells (cur1.setIfInBounds s (.int .i64 (ep + 1))) 3 (0, 0)) := by rw [hwB]; exact blk_put ((Below.heap_setCell _ _ _ _ ne3).trans H1.out) s _ rfl
     have hbB : Below W.heap.size W wB := by rw [hwB]; exact (HB4.out.setCell (p := ⟨bx, 3, none⟩) LB.out.1 _).setCell (p := ⟨g1, s, none⟩) L1.out _
     have hbC := set7_below hbB LB.out.2.1 (.slice A0 n0 c0) (.slice A1 n1 c1) (.slice A2 n2 c2) (.slice (some ⟨g1, 0, none⟩) n3 cap1) (.bool fa) (.int .i64 fu) (.slice A6 n6 c6)
     rw [← hwB]
     refine bodyPost_ret (results_c rfl _ _ rb 31 #[.slice A0 n0 c0, .slice A1 n1 c1, .slice A2 n2 c2, .slice (some ⟨g1, 0, none⟩) n3 cap1, .bool fa, .int .i64 fu, .slice A6 n6 c6] (0, 0) _ rfl (set7_blk hB1 (.slice A0 n0 c0) (.slice A1 n1 c1) (.slice A2 n2 c2) (.slice (some ⟨g1, 0, none⟩) n3 cap1) (.bool fa) (.int .i64 fu) (.slice A6 n6 c6)) Try.underlying31 rfl (by kernel_rfl)) rfl ?_
     refine ⟨_, rfl, ?_, hbC⟩
     have mv : ∀ {α : Type} {d : Kd α} {e : Nat} {u : Value} {xs : List α}, Kd.V d e W 0 ok u xs → Kd.V d e (set7 wB rb (.slice A0 n0 c0) (.slice A1 n1 c1) (.slice A2 n2 c2) (.slice (some ⟨g1, 0, none⟩) n3 cap1) (.bool fa) (.int .i64 fu) (.slice A6 n6 c6)) 0 (fun k => ok k ∨ W.heap.size ≤ k) u xs := fun hu => Kd.V_mono (Kd.V_below hu hbC) (fun k hk => Or.inl hk)
     have hg7 := (set7_far wB rb (.slice A0 n0 c0) (.slice A1 n1 c1) (.slice A2 n2 c2) (.slice (some ⟨g1, 0, none⟩) n3 cap1) (.bool fa) (.int .i64 fu) (.slice A6 n6 c6) g1 ne5).trans hBg
     have hln := HA.out.fl5
     have hn5 := HN3.out
     have hV := scal_V (enc := Value.int .i64) (h1 := fun _ => rfl) (cap := cap1) (xs := fl.set s (ep + 1)) hg7 (by first | (simp; omega) | omega) (by have := HL1.out; first | (simp; omega) | omega) (set_cur (Value.int .i64) HCU.out s (by omega) _ _ rfl)
     obtain ⟨t0, t1, t2, t3, t4, t5⟩ := EQ.out
     rw [List.length_set, ← t3] at hV
     have hA := HA.out
     rw [← t0, ← t1, ← t2, ← t4] at hA
     obtain ⟨p1, p2, p3, p4, p5, p6, p7⟩ := fence_same S s ep
     exact ⟨_, _, _, _, _, fl.set s (ep + 1), fu, sv, { hv := by rw [p4, ← t5], h0 := by rw [p1]; exact mv hA.h0, h1 := by rw [p2]; exact mv hA.h1, h2 := by rw [p3]; exact mv hA.h2, h3 := Kd.V_mono hV (fun k hk => by rw [hk]; exact Or.inr L1.out), h6 := mv hA.h6, fl5 := by rw [List.length_set]; exact hln, fok := HFO.out, uok := ⟨(fun z => hA.uok.1 (by rw [← p5]; exact z)), (fun z => by obtain ⟨y1, y2⟩ := hA.uok.2 (by rw [← p5]; exact z); exact ⟨y1.trans p6.symm, y2.trans p7.symm⟩)⟩ }⟩
   ·have hxd : decide (x ≤ ep) = false := decide_eq_false hxe
    have hfl : fenceL fl s ep = fl := by unfold fenceL; rw [if_neg (fun z => hxe (by rw [HX.out]; exact z.2))]
    rw [hfl] at HFO
    clear hfl hxe
    go_wp2_with fail
    obtain ⟨wB, hwB⟩ : ∃ wB, wB = (w4.setCell ⟨bx, 3, none⟩ (.slice (some ⟨g1, 0, none⟩) n3 cap1)) := ⟨_, rfl⟩
    have hfB : ∀ k, k ≠ bx → k ≠ g1 → wB.heap[k]? = w4.heap[k]? := fun k h1 h2 => by rw [hwB]; exact (Below.heap_setCell _ _ _ _ h1)
    have hB1 : wB.heap[rb]? = some (.cells #[.slice none 0 0, .slice none 0 0, .slice none 0 0, .slice none 0 0, .bool false, .int .i64 0, .slice none 0 0] 31 (0, 0)) := (hfB rb ne2 ne6).trans F1.out
    have hBg : wB.heap[g1]? = some (.cells cur1 3 (0, 0)) := by rw [hwB]; exact (Below.heap_setCell _ _ _ _ ne3).trans H1.out
    have hbB : Below W.heap.size W wB := by rw [hwB]; exact HB4.out.setCell (p := ⟨bx, 3, none⟩) LB.out.1 _
    have hbC := set7_below hbB LB.out.2.1 (.slice A0 n0 c0) (.slice A1 n1 c1) (.slice A2 n2 c2) (.slice (some ⟨g1, 0, none⟩) n3 cap1) (.bool fa) (.int .i64 fu) (.slice A6 n6 c6)
    rw [← hwB]
    refine bodyPost_ret (results_c rfl _ _ rb 31 #[.slice A0 n0 c0, .slice A1 n1 c1, .slice A2 n2 c2, .slice (some ⟨g1, 0, none⟩) n3 cap1, .bool fa, .int .i64 fu, .slice A6 n6 c6] (0, 0) _ rfl (set7_blk hB1 (.slice A0 n0 c0) (.slice A1 n1 c1) (.slice A2 n2 c2) (.slice (some ⟨g1, 0, none⟩) n3 cap1) (.bool fa) (.int .i64 fu) (.slice A6 n6 c6)) Try.underlying31 rfl (by kernel_rfl)) rfl ?_
    refine ⟨_, rfl, ?_, hbC⟩
    have mv : ∀ {α : Type} {d : Kd α} {e : Nat} {u : Value} {xs : List α}, Kd.V d e W 0 ok u xs → Kd.V d e (set7 wB rb (.slice A0 n0 c0) (.slice A1 n1 c1) (.slice A2 n2 c2) (.slice (some ⟨g1, 0, none⟩) n3 cap1) (.bool fa) (.int .i64 fu) (.slice A6 n6 c6)) 0 (fun k => ok k ∨ W.heap.size ≤ k) u xs := fun hu => Kd.V_mono (Kd.V_below hu hbC) (fun k hk => Or.inl hk)
    have hg7 := (set7_far wB rb (.slice A0 n0 c0) (.slice A1 n1 c1) (.slice A2 n2 c2) (.slice (some ⟨g1, 0, none⟩) n3 cap1) (.bool fa) (.int .i64 fu) (.slice A6 n6 c6) g1 ne5).trans hBg
    have hln := HA.out.fl5
    have hn5 := HN3.out
    have hV := scal_V (enc := Value.int .i64) (h1 := fun _ => rfl) (cap := cap1) (xs := fl) hg7 (by first | (simp; omega) | omega) (by have := HL1.out; first | (simp; omega) | omega) (HCU.out)
    obtain ⟨t0, t1, t2, t3, t4, t5⟩ := EQ.out
    rw [← t3] at hV
    have hA := HA.out
    rw [← t0, ← t1, ← t2, ← t4] at hA
    obtain ⟨p1, p2, p3, p4, p5, p6, p7⟩ := fence_same S s ep
    exact ⟨_, _, _, _, _, fl, fu, sv, { hv := by rw [p4, ← t5], h0 := by rw [p1]; exact mv hA.h0, h1 := by rw [p2]; exact mv hA.h1, h2 := by rw [p3]; exact mv hA.h2, h3 := Kd.V_mono hV (fun k hk => by rw [hk]; exact Or.inr L1.out), h6 := mv hA.h6, fl5 := hln, fok := HFO.out, uok := ⟨(fun z => hA.uok.1 (by rw [← p5]; exact z)), (fun z => by obtain ⟨y1, y2⟩ := hA.uok.2 (by rw [← p5]; exact z); exact ⟨y1.trans p6.symm, y2.trans p7.symm⟩)⟩ }⟩
end
end Go.Proofs.Ytflajmgichdhhaa.PG
namespace Go.Proofs.Ytflajmgichdhhaa.PG
open Go.RowKit Go.Proofs.YtflajmgichdhhaaW.PrintWords Go.Proofs.YtflajmgichdhhaaW.PrintLast Go.Proofs.YtflajmgichdhhaaW.PrintMore
set_option linter.unusedVariables false
set_option linter.unusedSimpArgs false
section
variable {W : World} {ok : Nat → Prop} {v : Value} {S : DevS}
set_option maxRecDepth 100000 in
set_option maxHeartbeats 4000000 in
theorem return_ref {k : Nat} (hR : RefIs W ok v S) (hF : Fine k S) (sec back : Int) : Calls Try.prog 35 #[v, .int .i64 sec, .int .i64 back] W fun e W' => RPost2 ok (returnS S sec back).1 (returnS S sec back).2 W e W' := by
 have HF := Aside0.mk hF
 have HFL := Aside0.mk hF.len
 clear hF
 obtain ⟨v0, v1, v2, v3, v6, fl, fu, sv, hA⟩ := id hR
 obtain rfl := hA.hv
 obtain ⟨A0, c0, e0, hl0, hF0⟩ := hA.h0
 obtain ⟨A1, c1, e1, hl1, hF1⟩ := hA.h1
 obtain ⟨A2, c2, e2, hl2, hF2⟩ := hA.h2
 obtain ⟨A3, c3, e3, hl3, hF3⟩ := hA.h3
 obtain ⟨A6, c6, e6, hl6, hF6⟩ := hA.h6
 subst e0 e1 e2 e3 e6
 have HR := Aside0.mk hR
 have HA := Aside0.mk hA
 have HF0 := Aside0.mk hF0
 have HF1 := Aside0.mk hF1
 have HF2 := Aside0.mk hF2
 have HF3 := Aside0.mk hF3
 obtain ⟨n0, hn0⟩ : ∃ n0, n0 = S.stable.length := ⟨_, rfl⟩
 obtain ⟨n1, hn1⟩ : ∃ n1, n1 = S.old.length := ⟨_, rfl⟩
 obtain ⟨n2, hn2⟩ : ∃ n2, n2 = S.pend.length := ⟨_, rfl⟩
 obtain ⟨n3, hn3⟩ : ∃ n3, n3 = fl.length := ⟨_, rfl⟩
 obtain ⟨n6, hn6⟩ : ∃ n6, n6 = sv.length := ⟨_, rfl⟩
 obtain ⟨fa, hfa⟩ : ∃ fa, fa = S.failed := ⟨_, rfl⟩
 have EQ := Aside0.mk (show n0 = S.stable.length ∧ n1 = S.old.length ∧ n2 = S.pend.length ∧ n3 = fl.length ∧ n6 = sv.length ∧ fa = S.failed from ⟨hn0, hn1, hn2, hn3, hn6, hfa⟩)
 rw [← hn0, ← hn1, ← hn2, ← hn3, ← hn6, ← hfa]
 rw [← hn0, ← hn1, ← hn2, ← hn3, ← hn6, ← hfa] at HR
 clear hR hA hF0 hF1 hF2 hF3 hF6 hl0 hl1 hl2 hl3 hl6 hn0 hn1 hn2 hn3 hn6 hfa
 have HER := Aside0.mk (fun (w : World) (hb : Below W.heap.size W w) => show Calls Try.prog 42 #[.agg #[.slice A0 n0 c0, .slice A1 n1 c1, .slice A2 n2 c2, .slice A3 n3 c3, .bool fa, .int .i64 fu, .slice A6 n6 c6], .int .i64 sec] w fun e W' => e = .returned (.int .i64 (oldN S sec)) ∧ Below w.heap.size w W' from by
  obtain ⟨rfl, rfl, rfl, rfl, rfl, rfl⟩ := EQ.out
  exact earlier_ref w S.old (Kd.C_below (Kd.F_now HF1.out) hb) HFL.out sec)
 unfold RPost2
 by_cases h1 : back < 1
 ·have hu : returnS S sec back = (2, S) := by unfold returnS; rw [if_neg (fun z => by omega)]
  rw [hu]
  have d1 : decide (back < 1) = true := decide_eq_true h1
  clear hu h1
  go_enter Try.func35, Try.ntmps35
  go_wp2_with fail
  have hx2 : ((W.alloc (.cells #[.slice A0 n0 c0, .slice A1 n1 c1, .slice A2 n2 c2, .slice A3 n3 c3, .bool fa, .int .i64 fu, .slice A6 n6 c6] 31)).alloc (.cells #[.slice A0 n0 c0, .slice A1 n1 c1, .slice A2 n2 c2, .slice A3 n3 c3, .bool fa, .int .i64 fu, .slice A6 n6 c6] 31)).heap[W.heap.size + 1]? = some (.cells #[.slice A0 n0 c0, .slice A1 n1 c1, .slice A2 n2 c2, .slice A3 n3 c3, .bool fa, .int .i64 fu, .slice A6 n6 c6] 31 (0, 0)) := by
   rw [show W.heap.size + 1 = (W.alloc (.cells #[.slice A0 n0 c0, .slice A1 n1 c1, .slice A2 n2 c2, .slice A3 n3 c3, .bool fa, .int .i64 fu, .slice A6 n6 c6] 31)).heap.size by simp]; exact blk_new _ _
  have hb2 : Below W.heap.size W ((W.alloc (.cells #[.slice A0 n0 c0, .slice A1 n1 c1, .slice A2 n2 c2, .slice A3 n3 c3, .bool fa, .int .i64 fu, .slice A6 n6 c6] 31)).alloc (.cells #[.slice A0 n0 c0, .slice A1 n1 c1, .slice A2 n2 c2, .slice A3 n3 c3, .bool fa, .int .i64 fu, .slice A6 n6 c6] 31)) := below_alloc (below_alloc (Below.refl _ _) _) _
  refine bodyPost_ret (results_ct rfl _ _ (W.heap.size + 1) 31 #[.slice A0 n0 c0, .slice A1 n1 c1, .slice A2 n2 c2, .slice A3 n3 c3, .bool fa, .int .i64 fu, .slice A6 n6 c6] (0, 0) _ rfl hx2 Try.underlying31 rfl (by kernel_rfl)) rfl ?_
  refine ⟨_, rfl, ?_, hb2⟩
  exact (HR.out.below hb2).mono (fun k hk _ => Or.inl hk)
 ·have d1 : decide (back < 1) = false := decide_eq_false h1
  obtain ⟨q, hq⟩ : ∃ q, q = oldN S sec := ⟨_, rfl⟩
  by_cases h2 : q < back
  ·have hu : returnS S sec back = (2, S) := by
    unfold returnS
    rw [if_neg (fun z => by
     have : oldN S sec = ((S.old.getD sec.toNat []).length : Int) := by unfold oldN; rw [if_pos z.1]
     omega)]
   rw [hu]
   rw [← hq] at HER
   have d2 : decide (q < back) = true := decide_eq_true h2
   clear hu h1 h2 hq
   go_enter Try.func35, Try.ntmps35
   go_wp2_with fail
   obtain ⟨w1, hw1⟩ : ∃ w1, w1 = (W.alloc (.cells #[.slice A0 n0 c0, .slice A1 n1 c1, .slice A2 n2 c2, .slice A3 n3 c3, .bool fa, .int .i64 fu, .slice A6 n6 c6] 31)).alloc (.cells #[.slice none 0 0, .slice none 0 0, .slice none 0 0, .slice none 0 0, .bool false, .int .i64 0, .slice none 0 0] 31) := ⟨_, rfl⟩
   have hb1 : Below W.heap.size W w1 := by rw [hw1]; exact below_alloc (below_alloc (Below.refl _ _) _) _
   have hs1 : w1.heap.size = W.heap.size + 1 + 1 := by rw [hw1]; simp
   have f0 : w1.heap[W.heap.size]? = some (.cells #[.slice A0 n0 c0, .slice A1 n1 c1, .slice A2 n2 c2, .slice A3 n3 c3, .bool fa, .int .i64 fu, .slice A6 n6 c6] 31 (0, 0)) := by rw [hw1]; exact blk_below (blk_new _ _) (below_alloc (Below.refl _ _) _)
   have f1 : w1.heap[W.heap.size + 1]? = some (.cells #[.slice none 0 0, .slice none 0 0, .slice none 0 0, .slice none 0 0, .bool false, .int .i64 0, .slice none 0 0] 31 (0, 0)) := by rw [hw1, show W.heap.size + 1 = (W.alloc (.cells #[.slice A0 n0 c0, .slice A1 n1 c1, .slice A2 n2 c2, .slice A3 n3 c3, .bool fa, .int .i64 fu, .slice A6 n6 c6] 31)).heap.size by simp]; exact blk_new _ _
   obtain ⟨bx, hbx⟩ : ∃ bx, bx = W.heap.size := ⟨_, rfl⟩
   obtain ⟨rb, hrb⟩ : ∃ rb, rb = W.heap.size + 1 := ⟨_, rfl⟩
   rw [← hw1, ← hrb]
   rw [show (Value.pointer (some ⟨W.heap.size, 0, none⟩)) = .pointer (some ⟨bx, 0, none⟩) by rw [hbx]]
   rw [← hrb] at f1
   rw [← hbx] at f0
   have LB := Aside0.mk (show W.heap.size ≤ bx ∧ W.heap.size ≤ rb ∧ bx ≠ rb ∧ bx < w1.heap.size ∧ rb < w1.heap.size from ⟨by omega, by omega, by omega, by omega, by omega⟩)
   have F0 := Aside0.mk f0
   have F1 := Aside0.mk f1
   have HB1 := Aside0.mk hb1
   have HS1 := Aside0.mk hs1
   clear hw1 hb1 hs1 f0 f1 hbx hrb
   have HBW := Aside0.mk HB1.out
   refine (HER.out w1 HB1.out).mono ?_
   rintro e w2 ⟨rfl, hb⟩
   have g0 := blk_below F0.out hb
   have g1 := blk_below F1.out hb
   have hbw := HB1.out.trans (hb.mono HB1.out.size)
   obtain ⟨k0, k1, k2, k3, k4, k5, k6⟩ := cells7 g0
   obtain ⟨z0, z1, z2, z3, z4, z5, z6⟩ := froz7 g0
   obtain ⟨r0, r1, r2, r3, r4, r5, r6⟩ := cells7 g1
   obtain ⟨s0, s1, s2, s3, s4, s5, s6⟩ := froz7 g1
   have ne1 : bx ≠ rb := LB.out.2.2.1
   have ne2 : rb ≠ bx := fun e => ne1 e.symm
   have G1 := Aside0.mk g1
   clear g0 g1 hb F0 F1
   go_wp2_with fail
   have hbC := set7_below hbw LB.out.2.1 (.slice A0 n0 c0) (.slice A1 n1 c1) (.slice A2 n2 c2) (.slice A3 n3 c3) (.bool fa) (.int .i64 fu) (.slice A6 n6 c6)
   refine bodyPost_ret (results_ct rfl _ _ rb 31 #[.slice A0 n0 c0, .slice A1 n1 c1, .slice A2 n2 c2, .slice A3 n3 c3, .bool fa, .int .i64 fu, .slice A6 n6 c6] (0, 0) _ rfl (set7_blk G1.out (.slice A0 n0 c0) (.slice A1 n1 c1) (.slice A2 n2 c2) (.slice A3 n3 c3) (.bool fa) (.int .i64 fu) (.slice A6 n6 c6)) Try.underlying31 rfl (by kernel_rfl)) rfl ?_
   refine ⟨_, rfl, ?_, hbC⟩
   exact (HR.out.below hbC).mono (fun k hk _ => Or.inl hk)
  ·have hth : 0 ≤ sec ∧ sec < (S.stable.length : Int) := by
    by_cases h : 0 ≤ sec ∧ sec < (S.stable.length : Int)
    ·exact h
    ·have : oldN S sec = 0 := by unfold oldN; rw [if_neg h]
     omega
   have hon : oldN S sec = ((S.old.getD sec.toNat []).length : Int) := by unfold oldN; rw [if_pos hth]
   obtain ⟨i, rfl⟩ := Int.eq_ofNat_of_zero_le hth.1
   obtain ⟨b, rfl⟩ := Int.eq_ofNat_of_zero_le (show 0 ≤ back by omega)
   rw [Int.toNat_natCast] at hon
   have hu : returnS S (i : Int) (b : Int) = (0, { S with stable := S.stable.set i ((S.old.getD i []).getD (b - 1) ⟨#[]⟩) }) := by
    unfold returnS
    rw [Int.toNat_natCast, if_pos ⟨hth, by omega, by omega⟩, show ((b : Int) - 1).toNat = b - 1 by omega]
   rw [hu]
   have hin : i < n0 := by have := EQ.out.1; omega
   have hin1 : i < n1 := by have := EQ.out.2.1; have := HFL.out; omega
   obtain ⟨ad, Ai, ci, ea, y0, yl, yC⟩ := row_at (Kd.F_now HF1.out) i (by have := EQ.out.2.1; omega)
   obtain ⟨b', rfl⟩ : ∃ b', b = b' + 1 := ⟨b - 1, by omega⟩
   rw [show b' + 1 - 1 = b' by omega]
   obtain ⟨adi, ei, x0⟩ := Kd.at_string yC (b' : Int) (by omega) (by omega)
   rw [Int.toNat_natCast, show rdOf ByteArray.empty (S.old.getD i []) (b' : Int) = (S.old.getD i []).getD b' ⟨#[]⟩ by unfold rdOf; rw [Int.toNat_natCast]; rfl] at x0
   obtain ⟨x, hx⟩ : ∃ x, x = (S.old.getD i []).getD b' ⟨#[]⟩ := ⟨_, rfl⟩
   obtain ⟨ny, hny⟩ : ∃ ny, ny = (S.old.getD i []).length := ⟨_, rfl⟩
   rw [← hx] at x0 ⊢
   rw [← hny] at y0
   have hbz : b' < ny := by omega
   have hbzz : (b' : Int) < (ny : Int) := by omega
   have hny8 : ny ≤ 9223372036854775807 := by rw [hny]; exact yC.2.1
   subst ea
   subst ei
   have hinz : (i : Int) < (n0 : Int) := by omega
   have hinz1 : (i : Int) < (n1 : Int) := by omega
   have hnm : n0 ≤ 1155 := by have := HF.out.n1; have := EQ.out.1; omega
   have d2 : decide (q < ((b' + 1 : Nat) : Int)) = false := decide_eq_false h2
   have d3 : decide (q < (b' : Int) + 1) = false := decide_eq_false (by omega)
   have d4 : decide (((b' : Int) + 1) < 1) = false := decide_eq_false (by omega)
   rw [← hq] at HER
   have Y0 := Aside0.mk y0
   have X0 := Aside0.mk x0
   clear hu hth hon h1 h2 hq hx hny yl yC y0 x0
   go_enter Try.func35, Try.ntmps35
   go_wp2_with fail
   obtain ⟨w1, hw1⟩ : ∃ w1, w1 = (W.alloc (.cells #[.slice A0 n0 c0, .slice (some ad) n1 c1, .slice A2 n2 c2, .slice A3 n3 c3, .bool fa, .int .i64 fu, .slice A6 n6 c6] 31)).alloc (.cells #[.slice none 0 0, .slice none 0 0, .slice none 0 0, .slice none 0 0, .bool false, .int .i64 0, .slice none 0 0] 31) := ⟨_, rfl⟩
   have hb1 : Below W.heap.size W w1 := by rw [hw1]; exact below_alloc (below_alloc (Below.refl _ _) _) _
   have hs1 : w1.heap.size = W.heap.size + 1 + 1 := by rw [hw1]; simp
   have f0 : w1.heap[W.heap.size]? = some (.cells #[.slice A0 n0 c0, .slice (some ad) n1 c1, .slice A2 n2 c2, .slice A3 n3 c3, .bool fa, .int .i64 fu, .slice A6 n6 c6] 31 (0, 0)) := by rw [hw1]; exact blk_below (blk_new _ _) (below_alloc (Below.refl _ _) _)
   have f1 : w1.heap[W.heap.size + 1]? = some (.cells #[.slice none 0 0, .slice none 0 0, .slice none 0 0, .slice none 0 0, .bool false, .int .i64 0, .slice none 0 0] 31 (0, 0)) := by rw [hw1, show W.heap.size + 1 = (W.alloc (.cells #[.slice A0 n0 c0, .slice (some ad) n1 c1, .slice A2 n2 c2, .slice A3 n3 c3, .bool fa, .int .i64 fu, .slice A6 n6 c6] 31)).heap.size by simp]; exact blk_new _ _
   obtain ⟨bx, hbx⟩ : ∃ bx, bx = W.heap.size := ⟨_, rfl⟩
   obtain ⟨rb, hrb⟩ : ∃ rb, rb = W.heap.size + 1 := ⟨_, rfl⟩
   rw [← hw1, ← hrb]
   rw [show (Value.pointer (some ⟨W.heap.size, 0, none⟩)) = .pointer (some ⟨bx, 0, none⟩) by rw [hbx]]
   rw [← hrb] at f1
   rw [← hbx] at f0
   have LB := Aside0.mk (show W.heap.size ≤ bx ∧ W.heap.size ≤ rb ∧ bx ≠ rb ∧ bx < w1.heap.size ∧ rb < w1.heap.size from ⟨by omega, by omega, by omega, by omega, by omega⟩)
   have F0 := Aside0.mk f0
   have F1 := Aside0.mk f1
   have HB1 := Aside0.mk hb1
   have HS1 := Aside0.mk hs1
   clear hw1 hb1 hs1 f0 f1 hbx hrb
   refine (HER.out w1 HB1.out).mono ?_
   rintro e w2 ⟨rfl, hb⟩
   have g0 := blk_below F0.out hb
   have g1 := blk_below F1.out hb
   have HBW := Aside0.mk (HB1.out.trans (hb.mono HB1.out.size))
   obtain ⟨k0, k1, k2, k3, k4, k5, k6⟩ := cells7 g0
   obtain ⟨z0, z1, z2, z3, z4, z5, z6⟩ := froz7 g0
   obtain ⟨r0, r1, r2, r3, r4, r5, r6⟩ := cells7 g1
   obtain ⟨s0, s1, s2, s3, s4, s5, s6⟩ := froz7 g1
   have lbx := blk_lt g0
   have G0 := Aside0.mk g0
   have G1 := Aside0.mk g1
   clear g0 g1 hb F0 F1
   go_wp2_with (at_builtin; with_reducible refine stopHere ?_)
   obtain ⟨e0, he0⟩ : ∃ e0, e0 = w2.heap.size := ⟨_, rfl⟩
   obtain ⟨w3, hw3⟩ : ∃ w3, w3 = w2.alloc (.cells #[] 9) := ⟨_, rfl⟩
   have hb3 : Below w2.heap.size w2 w3 := by rw [hw3]; exact below_alloc (Below.refl _ _) _
   have f2 : w3.heap[e0]? = some (.cells #[] 9 (0, 0)) := by rw [hw3, he0]; exact blk_new _ _
   rw [← he0, ← hw3]
   have f0 := blk_below G0.out hb3
   have f1 := blk_below G1.out hb3
   have fb := HBW.out.trans (hb3.mono HBW.out.size)
   have hle0 : W.heap.size ≤ e0 := by rw [he0]; exact HBW.out.size
   have je0 : bx ≠ e0 := fun e => by have := blk_lt G0.out; omega
   have je1 : rb ≠ e0 := fun e => by have := blk_lt G1.out; omega
   clear hw3 he0 hb3 G0 G1 lbx k0 k1 k2 k3 k4 k5 k6 z0 z1 z2 z3 z4 z5 z6 r0 r1 r2 r3 r4 r5 r6 s0 s1 s2 s3 s4 s5 s6
   refine ⟨?_⟩
   refine Kd.R_append_rows Kd.string (w0 := W) W.heap.size rfl (.tmp 18) (.tmp 20) 26 9 (.string ⟨#[]⟩) 16 rfl Try.underlying26 info9 rfl (by decide) (by omega) _ [] S.stable A0 n0 c0 (fun k => W.heap.size ≤ k) (fun _ => False) rfl rfl (empty_own' f2 hle0) (by rw [EQ.out.1]; exact Kd.C_below (Kd.F_now HF0.out) fb) (fun _ _ h => h) (fun _ h => h.elim) (fun k hk => Nat.le_trans fb.size hk) fb fb.size (by simp; omega) ?_
   intro v1 w4 hR1 hb4 hg4 hat4
   rw [List.nil_append] at hR1
   obtain ⟨g1, cap1, cur1, hv1, hge1, hh1, hle1, hmx1, hcur1⟩ := own_open hR1 (by have := EQ.out.1; omega)
   rw [← EQ.out.1] at hv1 hle1
   subst hv1
   have f0 := (hg4.block bx (blk_lt f0) (fun e => je0 (Option.some.inj e))).trans f0
   have f1 := (hg4.block rb (blk_lt f1) (fun e => je1 (Option.some.inj e))).trans f1
   obtain ⟨k0, k1, k2, k3, k4, k5, k6⟩ := cells7 f0
   obtain ⟨z0, z1, z2, z3, z4, z5, z6⟩ := froz7 f0
   obtain ⟨r0, r1, r2, r3, r4, r5, r6⟩ := cells7 f1
   obtain ⟨s0, s1, s2, s3, s4, s5, s6⟩ := froz7 f1
   have y0 := (hb4.cell (World.block_lt_of_cell? _ _ Y0.out)).trans Y0.out
   have x0 := (hb4.cell (World.block_lt_of_cell? _ _ X0.out)).trans X0.out
   have q0 : ∃ u, w4.cell? ⟨g1, i, none⟩ = some u := ⟨_, by rw [blk_cell hh1]; exact hcur1 i _ (List.getElem?_eq_getElem (by have := EQ.out.1; omega))⟩
   obtain ⟨u, q0⟩ := q0
   have qz : w4.frozen? ⟨g1, i, none⟩ = false := blk_frozen hh1 i
   have ne3 : g1 ≠ bx := blk_ne hh1 f0 (by decide)
   have ne4 : bx ≠ g1 := fun e => ne3 e.symm
   have ne6 : rb ≠ g1 := blk_ne f1 hh1 (by decide)
   have LX := Aside0.mk (show ad.block < W.heap.size ∧ adi.block < W.heap.size from ⟨by have := World.block_lt_of_cell? _ _ Y0.out; unfold Addr.add at this; split at this <;> exact this, by have := World.block_lt_of_cell? _ _ X0.out; unfold Addr.add at this; split at this <;> exact this⟩)
   have F0 := Aside0.mk f0
   have F1 := Aside0.mk f1
   have H1 := Aside0.mk hh1
   have HB4 := Aside0.mk hb4
   have HCU := Aside0.mk hcur1
   have L1 := Aside0.mk (show W.heap.size ≤ g1 from hge1)
   have HL1 := Aside0.mk hle1
   clear f0 f1 f2 fb hle0 je0 je1 hR1 hb4 hg4 hat4 hh1 hge1 hmx1 hcur1
   go_upto_region 4 with (fail)
   obtain ⟨w5, hw5⟩ : ∃ w5, w5 = w4.setCell ⟨bx, 0, none⟩ (.slice (some ⟨g1, 0, none⟩) n0 cap1) := ⟨_, rfl⟩
   have ne1 : bx ≠ rb := LB.out.2.2.1
   have ne2 : rb ≠ bx := fun e => ne1 e.symm
   have hf5 : ∀ k, k ≠ bx → w5.heap[k]? = w4.heap[k]? := fun k hk => by rw [hw5]; exact Below.heap_setCell _ _ _ _ hk
   have b5 : w5.heap[bx]? = some (.cells #[.slice (some ⟨g1, 0, none⟩) n0 cap1, .slice (some ad) n1 c1, .slice A2 n2 c2, .slice A3 n3 c3, .bool fa, .int .i64 fu, .slice A6 n6 c6] 31 (0, 0)) := by rw [hw5]; exact blk_put F0.out 0 _ rfl
   have hr5 := (hf5 rb ne2).trans F1.out
   have h5 := (hf5 g1 ne3).trans H1.out
   have hb5 : Below W.heap.size W w5 := by rw [hw5]; exact HB4.out.setCell (p := ⟨bx, 0, none⟩) LB.out.1 _
   rw [← hw5]
   clear hw5 hf5 k0 k1 k2 k3 k4 k5 k6 z0 z1 z2 z3 z4 z5 z6 r0 r1 r2 r3 r4 r5 r6 s0 s1 s2 s3 s4 s5 s6 y0 x0 q0 qz
   obtain ⟨k0, k1, k2, k3, k4, k5, k6⟩ := cells7 b5
   obtain ⟨z0, z1, z2, z3, z4, z5, z6⟩ := froz7 b5
   obtain ⟨r0, r1, r2, r3, r4, r5, r6⟩ := cells7 hr5
   obtain ⟨s0, s1, s2, s3, s4, s5, s6⟩ := froz7 hr5
   have y0 := (hb5.cell (World.block_lt_of_cell? _ _ Y0.out)).trans Y0.out
   have x0 := (hb5.cell (World.block_lt_of_cell? _ _ X0.out)).trans X0.out
   have q5 : ∃ u, w5.cell? ⟨g1, i, none⟩ = some u := ⟨_, by rw [blk_cell h5]; exact HCU.out i _ (List.getElem?_eq_getElem (by have := EQ.out.1; omega))⟩
   obtain ⟨u5, q5⟩ := q5
   have q6 : w5.frozen? ⟨g1, i, none⟩ = false := blk_frozen h5 i
   have q7 : w5.drew.cell? ⟨g1, i, none⟩ = some u5 := q5
   have q8 : w5.drew.frozen? ⟨g1, i, none⟩ = false := q6
   have B5 := Aside0.mk b5
   have R5 := Aside0.mk hr5
   have H5 := Aside0.mk h5
   have HB5 := Aside0.mk hb5
   have wb1 : IntKind.i64.wrap ((b' : Int) + 1 - 1) = (b' : Int) := by rw [show (b' : Int) + 1 - 1 = b' by omega]; exact IntWalk.i64_in _ (by omega)
   have wb2 : IntKind.i64.wrap (((b' + 1 : Nat) : Int) - 1) = (b' : Int) := by rw [show ((b' + 1 : Nat) : Int) - 1 = b' by omega]; exact IntWalk.i64_in _ (by omega)
   have wb0 : IntKind.i64.wrap (b' : Int) = (b' : Int) := IntWalk.i64_in _ (by omega)
   have wb3 : wrap64 (b' : Int) = (b' : Int) := by rw [← i64_w]; exact wb0
   clear b5 hr5 h5 hb5 F0 F1 H1 HB4
   refine start_ (n := 14) (S := fun w' => w'.cell? ⟨bx, 0, none⟩ = some (.slice (some ⟨g1, 0, none⟩) n0 cap1) ∧ w'.cell? ⟨bx, 1, none⟩ = some (.slice (some ad) n1 c1) ∧ w'.cell? (ad.add i) = some (.slice (some adi) ny ci) ∧ w'.cell? (adi.add b') = some (.string x)) (ds := [13]) #[false, false, false, false, false, false, false, false, false, false, false, false, false, false] (by kernel_rfl) rfl rfl ⟨k0, k1, y0, x0⟩ (fun hHeld => ?_)
   refine pure_ (i := 0) (N := some 23) (v := ?_) (a' := ?_) #[true, false, false, false, false, false, false, false, false, false, false, false, false, false] rfl rfl (by kernel_rfl) (fun _ _ _ h => h) (Or.inl ⟨by rfl, ?_⟩) ?_ ?_
   rotate_left
   ·intro w'
    go_simp
    with_reducible rfl
   rotate_left
   ·simp only [Act.put, List.setIfInBounds_toArray, List.set_cons_zero, List.set_cons_succ, i64_w, i32_w]
    rfl
   refine pure_ (i := 2) (N := some 25) (v := ?_) (a' := ?_) #[true, false, true, false, false, false, false, false, false, false, false, false, false, false] rfl rfl (by kernel_rfl) (fun _ _ _ h => h) (Or.inl ⟨by rfl, ?_⟩) ?_ ?_
   rotate_left
   ·intro w'
    go_simp
    with_reducible rfl
   rotate_left
   ·simp only [Act.put, List.setIfInBounds_toArray, List.set_cons_zero, List.set_cons_succ, i64_w, i32_w]
    rfl
   refine pure_ (i := 3) (N := some 26) (v := ?_) (a' := ?_) #[true, false, true, true, false, false, false, false, false, false, false, false, false, false] rfl rfl (by kernel_rfl) (fun _ _ _ h => h) (Or.inl ⟨by rfl, ?_⟩) ?_ ?_
   rotate_left
   ·intro w'
    go_simp
    with_reducible rfl
   rotate_left
   ·simp only [Act.put, List.setIfInBounds_toArray, List.set_cons_zero, List.set_cons_succ, i64_w, i32_w]
    rfl
   refine pure_ (i := 5) (N := some 28) (v := ?_) (a' := ?_) #[true, false, true, true, false, true, false, false, false, false, false, false, false, false] rfl rfl (by kernel_rfl) (fun _ _ _ h => h) (Or.inl ⟨by rfl, ?_⟩) ?_ ?_
   rotate_left
   ·intro w'
    go_simp
    with_reducible rfl
   rotate_left
   ·simp only [Act.put, List.setIfInBounds_toArray, List.set_cons_zero, List.set_cons_succ, i64_w, i32_w]
    rfl
   refine pure_ (i := 8) (N := some 31) (v := ?_) (a' := ?_) #[true, false, true, true, false, true, false, false, true, false, false, false, false, false] rfl rfl (by kernel_rfl) (fun _ _ _ h => h) (Or.inl ⟨by rfl, ?_⟩) ?_ ?_
   rotate_left
   ·intro w'
    go_simp
    with_reducible rfl
   rotate_left
   ·simp only [Act.put, List.setIfInBounds_toArray, List.set_cons_zero, List.set_cons_succ, i64_w, i32_w]
    rfl
   refine pure_ (i := 9) (N := some 32) (v := ?_) (a' := ?_) #[true, false, true, true, false, true, false, false, true, true, false, false, false, false] rfl rfl (by kernel_rfl) (fun _ _ _ h => h) (Or.inl ⟨by rfl, ?_⟩) ?_ ?_
   rotate_left
   ·intro w'
    go_simp
    with_reducible rfl
   rotate_left
   ·simp only [Act.put, List.setIfInBounds_toArray, List.set_cons_zero, List.set_cons_succ, i64_w, i32_w]
    rfl
   refine take_ (i := 1) (N := some 24) (v := ?_) (a' := ?_) #[true, true, true, true, false, true, false, false, true, true, false, false, false, false] rfl rfl (by kernel_rfl) (fun _ _ _ h => h) (Or.inl ⟨by rfl, ?_⟩) hHeld ?_ ?_
   rotate_left
   ·rintro w' ⟨s0, s1, s2, s3⟩
    go_simp
    with_reducible rfl
   rotate_left
   ·simp only [Act.put, List.setIfInBounds_toArray, List.set_cons_zero, List.set_cons_succ, i64_w, i32_w]
    rfl
   refine take_ (i := 4) (N := some 27) (v := ?_) (a' := ?_) #[true, true, true, true, true, true, false, false, true, true, false, false, false, false] rfl rfl (by kernel_rfl) (fun _ _ _ h => h) (Or.inl ⟨by rfl, ?_⟩) hHeld ?_ ?_
   rotate_left
   ·rintro w' ⟨s0, s1, s2, s3⟩
    go_simp
    with_reducible rfl
   rotate_left
   ·simp only [Act.put, List.setIfInBounds_toArray, List.set_cons_zero, List.set_cons_succ, i64_w, i32_w]
    rfl
   refine pure_ (i := 6) (N := some 29) (v := ?_) (a' := ?_) #[true, true, true, true, true, true, true, false, true, true, false, false, false, false] rfl rfl (by kernel_rfl) (fun _ _ _ h => h) (Or.inl ⟨by rfl, ?_⟩) ?_ ?_
   rotate_left
   ·intro w'
    go_simp
    with_reducible rfl
   rotate_left
   ·simp only [Act.put, List.setIfInBounds_toArray, List.set_cons_zero, List.set_cons_succ, i64_w, i32_w]
    rfl
   refine take_ (i := 7) (N := some 30) (v := ?_) (a' := ?_) #[true, true, true, true, true, true, true, true, true, true, false, false, false, false] rfl rfl (by kernel_rfl) (fun _ _ _ h => h) (Or.inl ⟨by rfl, ?_⟩) hHeld ?_ ?_
   rotate_left
   ·rintro w' ⟨s0, s1, s2, s3⟩
    go_simp
    with_reducible rfl
   rotate_left
   ·simp only [Act.put, List.setIfInBounds_toArray, List.set_cons_zero, List.set_cons_succ, i64_w, i32_w]
    rfl
   refine pure_ (i := 10) (N := some 33) (v := ?_) (a' := ?_) #[true, true, true, true, true, true, true, true, true, true, true, false, false, false] rfl rfl (by kernel_rfl) (fun _ _ _ h => h) (Or.inl ⟨by rfl, ?_⟩) ?_ ?_
   rotate_left
   ·intro w'
    go_simp
    with_reducible rfl
   rotate_left
   ·simp only [Act.put, List.setIfInBounds_toArray, List.set_cons_zero, List.set_cons_succ, i64_w, i32_w]
    rfl
   refine take_ (i := 11) (N := some 34) (v := ?_) (a' := ?_) #[true, true, true, true, true, true, true, true, true, true, true, true, false, false] rfl rfl (by kernel_rfl) (fun _ _ _ h => h) (Or.inl ⟨by rfl, ?_⟩) hHeld ?_ ?_
   rotate_left
   ·rintro w' ⟨s0, s1, s2, s3⟩
    go_simp
    with_reducible rfl
   rotate_left
   ·simp only [Act.put, List.setIfInBounds_toArray, List.set_cons_zero, List.set_cons_succ, i64_w, i32_w]
    rfl
   refine pure_ (i := 12) (N := some 35) (v := ?_) (a' := ?_) #[true, true, true, true, true, true, true, true, true, true, true, true, true, false] rfl rfl (by kernel_rfl) (fun _ _ _ h => h) (Or.inl ⟨by rfl, ?_⟩) ?_ ?_
   rotate_left
   ·intro w'
    go_simp
    with_reducible rfl
   rotate_left
   ·simp only [Act.put, List.setIfInBounds_toArray, List.set_cons_zero, List.set_cons_succ, i64_w, i32_w]
    rfl
   refine last_ (i := 13) (N := none) #[true, true, true, true, true, true, true, true, true, true, true, true, true, true] rfl rfl (by kernel_rfl) (by decide) (fun K hK => ?_)
   refine skip_ (w1 := ?_) (by rfl) rfl ?_ ?_
   rotate_left
   ·go_simp
    rfl
   refine hK.out _ _ ?_
   clear hK K
   refine done_ (by kernel_rfl) ?_
   have ne7 : g1 ≠ rb := fun e => ne6 e.symm
   go_wp2_with fail
   obtain ⟨wB, hwB⟩ : ∃ wB, wB = w5.setCell ⟨g1, i, none⟩ (.string x) := ⟨_, rfl⟩
   have hB1 : wB.heap[rb]? = some (.cells #[.slice none 0 0, .slice none 0 0, .slice none 0 0, .slice none 0 0, .bool false, .int .i64 0, .slice none 0 0] 31 (0, 0)) := by rw [hwB]; exact (Below.heap_setCell _ _ _ _ ne6).trans R5.out
   have hBg : wB.heap[g1]? = some (.cells (cur1.setIfInBounds i (.string x)) 9 (0, 0)) := by rw [hwB]; exact blk_put H5.out i _ rfl
   have hbB : Below W.heap.size W wB := by rw [hwB]; exact HB5.out.setCell (p := ⟨g1, i, none⟩) L1.out _
   have hbC := set7_below hbB LB.out.2.1 (.slice (some ⟨g1, 0, none⟩) n0 cap1) (.slice (some ad) n1 c1) (.slice A2 n2 c2) (.slice A3 n3 c3) (.bool fa) (.int .i64 fu) (.slice A6 n6 c6)
   obtain ⟨wS, hwS⟩ : ∃ wS, wS = set7 wB rb (.slice (some ⟨g1, 0, none⟩) n0 cap1) (.slice (some ad) n1 c1) (.slice A2 n2 c2) (.slice A3 n3 c3) (.bool fa) (.int .i64 fu) (.slice A6 n6 c6) := ⟨_, rfl⟩
   have hxS : wS.heap[rb]? = some (.cells #[.slice (some ⟨g1, 0, none⟩) n0 cap1, .slice (some ad) n1 c1, .slice A2 n2 c2, .slice A3 n3 c3, .bool fa, .int .i64 fu, .slice A6 n6 c6] 31 (0, 0)) := by rw [hwS]; exact set7_blk hB1 (.slice (some ⟨g1, 0, none⟩) n0 cap1) (.slice (some ad) n1 c1) (.slice A2 n2 c2) (.slice A3 n3 c3) (.bool fa) (.int .i64 fu) (.slice A6 n6 c6)
   have hbS : Below W.heap.size W wS := by rw [hwS]; exact hbC
   have hg7 : wS.heap[g1]? = some (.cells (cur1.setIfInBounds i (.string x)) 9 (0, 0)) := by rw [hwS]; exact (set7_far wB rb (.slice (some ⟨g1, 0, none⟩) n0 cap1) (.slice (some ad) n1 c1) (.slice A2 n2 c2) (.slice A3 n3 c3) (.bool fa) (.int .i64 fu) (.slice A6 n6 c6) g1 ne7).trans hBg
   obtain ⟨wC, hwC⟩ : ∃ wC, wC = wS.drew := ⟨_, rfl⟩
   have hxC : wC.heap[rb]? = some (.cells #[.slice (some ⟨g1, 0, none⟩) n0 cap1, .slice (some ad) n1 c1, .slice A2 n2 c2, .slice A3 n3 c3, .bool fa, .int .i64 fu, .slice A6 n6 c6] 31 (0, 0)) := by rw [hwC]; exact hxS
   have hbD : Below W.heap.size W wC := by rw [hwC]; exact hbS.drew
   have hgC : wC.heap[g1]? = some (.cells (cur1.setIfInBounds i (.string x)) 9 (0, 0)) := by rw [hwC]; exact hg7
   rw [hwS] at hwC
   unfold set7 at hwC
   rw [← hwB, ← hwC]
   clear hwC hwS hwB hxS hbS hg7 hbC hbB hB1 hBg
   refine bodyPost_ret (results_ct rfl _ _ rb 31 #[.slice (some ⟨g1, 0, none⟩) n0 cap1, .slice (some ad) n1 c1, .slice A2 n2 c2, .slice A3 n3 c3, .bool fa, .int .i64 fu, .slice A6 n6 c6] (0, 0) _ rfl hxC Try.underlying31 rfl (by kernel_rfl)) rfl ?_
   refine ⟨_, rfl, ?_, hbD⟩
   have mv : ∀ {α : Type} {d : Kd α} {e : Nat} {u : Value} {xs : List α}, Kd.V d e W 0 ok u xs → Kd.V d e wC 0 (fun k => ok k ∨ W.heap.size ≤ k) u xs := fun hu => Kd.V_mono (Kd.V_below hu hbD) (fun k hk => Or.inl hk)
   obtain ⟨t0, t1, t2, t3, t4, t5⟩ := EQ.out
   have hV := scal_V (enc := Value.string) (h1 := fun _ => rfl) (cap := cap1) (xs := S.stable.set i x) hgC (by simp; omega) (by have := HL1.out; simp; omega) (set_cur Value.string HCU.out i (by omega) x _ rfl)
   rw [List.length_set, ← t0] at hV
   have hA := HA.out
   rw [← t1, ← t2, ← t3, ← t4] at hA
   have hfin : RefIs wC (fun k => ok k ∨ W.heap.size ≤ k) (.agg #[.slice (some ⟨g1, 0, none⟩) n0 cap1, .slice (some ad) n1 c1, .slice A2 n2 c2, .slice A3 n3 c3, .bool fa, .int .i64 fu, .slice A6 n6 c6]) { S with stable := S.stable.set i x } := ⟨_, _, _, _, _, fl, fu, sv, { hv := by rw [← t5], h0 := Kd.V_mono hV (fun k hk => by rw [hk]; exact Or.inr L1.out), h1 := mv hA.h1, h2 := mv hA.h2, h3 := mv hA.h3, h6 := mv hA.h6, fl5 := hA.fl5, fok := hA.fok, uok := hA.uok }⟩
   exact hfin
end
end Go.Proofs.Ytflajmgichdhhaa.PG
namespace Go.Proofs.Ytflajmgichdhhaa.PG
open Go.RowKit Go.Proofs.YtflajmgichdhhaaW.PrintWords Go.Proofs.YtflajmgichdhhaaW.PrintLast Go.Proofs.YtflajmgichdhhaaW.PrintMore
set_option linter.unusedVariables false
set_option linter.unusedSimpArgs false
theorem endF_none (p : S99 → Bool) (l : List Int) : ∀ (ws : List S99) (st : Nat × DevS), (∀ w ∈ ws, p w = false) → endF p l ws st = st
 | [], _, _ => rfl
 | w :: ws, st, h => by
  show endF p l ws (endStep p l st w) = st
  have h1 : endStep p l st w = st := by unfold endStep; rw [if_neg (by rw [h w (by simp)]; simp)]
  rw [h1]
  exact endF_none p l ws st (fun a ha => h a (by simp [ha]))
theorem finish_none {S : DevS} (p : S99 → Bool) (l : List Int) (h : ∀ w ∈ S.pend, p w = false) : finishS p l S = S := by
 unfold finishS
 rw [endF_none p l S.pend (0, S) h, List.filter_eq_self.2 (fun a ha => by rw [h a ha]; rfl)]
section
variable {W : World} {ok : Nat → Prop} {v : Value} {S : DevS}
set_option maxRecDepth 100000 in
set_option maxHeartbeats 4000000 in
theorem refdo_calls {k : Nat} (hR : RefIs W ok v S) (hG : Good k S) (hk : k ≤ 1000000) (o : S37) (hw : Opens.OpWf o) (A : Option Addr) (c : Nat) (hC : Kd.C (Kd.int .i64) W A o.f6.length o.f6) (hlc : o.f6.length ≤ c) (hlm : o.f6.length ≤ 1000000) :
  Calls Try.prog 13 #[v, .agg (opCells o A c)] W fun e W' => RPost2 ok (doS o S).1 (doS o S).2 W e W' := by
 have HG := Aside0.mk hG
 have HL := Aside0.mk hC
 have hk0 := hw.kind.1
 have hk1 := hw.kind.2
 clear hG hC
 obtain ⟨v0, v1, v2, v3, v6, fl, fu, sv, hA⟩ := id hR
 obtain rfl := hA.hv
 obtain ⟨A0, c0, e0, hl0, hF0⟩ := hA.h0
 obtain ⟨A1, c1, e1, hl1, hF1⟩ := hA.h1
 obtain ⟨A2, c2, e2, hl2, hF2⟩ := hA.h2
 obtain ⟨A3, c3, e3, hl3, hF3⟩ := hA.h3
 obtain ⟨A6, c6, e6, hl6, hF6⟩ := hA.h6
 subst e0 e1 e2 e3 e6
 have HR := Aside0.mk hR
 have HA := Aside0.mk hA
 have HF0 := Aside0.mk hF0
 have HF1 := Aside0.mk hF1
 have HF2 := Aside0.mk hF2
 have HF3 := Aside0.mk hF3
 obtain ⟨n0, hn0⟩ : ∃ n0, n0 = S.stable.length := ⟨_, rfl⟩
 obtain ⟨n1, hn1⟩ : ∃ n1, n1 = S.old.length := ⟨_, rfl⟩
 obtain ⟨n2, hn2⟩ : ∃ n2, n2 = S.pend.length := ⟨_, rfl⟩
 obtain ⟨n3, hn3⟩ : ∃ n3, n3 = fl.length := ⟨_, rfl⟩
 obtain ⟨n6, hn6⟩ : ∃ n6, n6 = sv.length := ⟨_, rfl⟩
 obtain ⟨fa, hfa⟩ : ∃ fa, fa = S.failed := ⟨_, rfl⟩
 have EQ := Aside0.mk (show n0 = S.stable.length ∧ n1 = S.old.length ∧ n2 = S.pend.length ∧ n3 = fl.length ∧ n6 = sv.length ∧ fa = S.failed from ⟨hn0, hn1, hn2, hn3, hn6, hfa⟩)
 rw [← hn0, ← hn1, ← hn2, ← hn3, ← hn6, ← hfa]
 rw [← hn0, ← hn1, ← hn2, ← hn3, ← hn6, ← hfa] at HR
 clear hR hA hF0 hF1 hF2 hF3 hF6 hl0 hl1 hl2 hl3 hl6 hn0 hn1 hn2 hn3 hn6 hfa
 unfold RPost2 opCells
 obtain ⟨r, S2, hrs⟩ : ∃ r S2, doS o S = (r, S2) := ⟨_, _, rfl⟩
 rw [hrs]
 obtain ⟨kd, hkd⟩ : ∃ kd, kd = o.f0 % 8 := ⟨_, rfl⟩
 have hkb : 0 ≤ kd ∧ kd < 8 := by omega
 unfold doS at hrs
 rw [← hkd] at hrs
 have HKD := Aside0.mk hkd.symm
 clear hkd
 by_cases c_0 : kd = 0
 ·have dd0 : (o.f0 % 8 == 0) = true := by rw [HKD.out, c_0]; rfl
  rw [if_pos c_0] at hrs
  have HC := Aside0.mk (fun (w : World) (hb : Below W.heap.size W w) => show Calls Try.prog 28 #[.agg #[.slice A0 n0 c0, .slice A1 n1 c1, .slice A2 n2 c2, .slice A3 n3 c3, .bool fa, .int .i64 fu, .slice A6 n6 c6], .agg #[.int .i64 o.f1.f0, .int .i64 o.f1.f1], .int .i64 o.f2, .string o.f3] w fun e w' => RPost2 (fun k => ok k ∧ k < W.heap.size) r S2 w e w' from by
   have h := dowrite_ref ((HR.out.mono (ok' := fun k => ok k ∧ k < W.heap.size) (fun k hk hlt => ⟨hk, hlt⟩)).below hb) HG.out hk o.f1.f0 o.f1.f1 o.f2 o.f3
   rw [hrs] at h
   exact h)
  clear hkb hrs c_0
  go_enter Try.func13, Try.ntmps13
  go_wp2_with fail
  obtain ⟨w1, hw1⟩ : ∃ w1, w1 = ((W.alloc (.cells #[.slice A0 n0 c0, .slice A1 n1 c1, .slice A2 n2 c2, .slice A3 n3 c3, .bool fa, .int .i64 fu, .slice A6 n6 c6] 31)).alloc (.cells #[.int .u8 o.f0, .int .i64 o.f1.f0, .int .i64 o.f1.f1, .int .i64 o.f2, .string o.f3, .int .i64 o.f4, .int .u8 o.f5, .slice A o.f6.length c] 37)).alloc (.cells #[.slice none 0 0, .slice none 0 0, .slice none 0 0, .slice none 0 0, .bool false, .int .i64 0, .slice none 0 0] 31) := ⟨_, rfl⟩
  obtain ⟨g0, gw, g1, hb1⟩ := three W (.cells #[.slice A0 n0 c0, .slice A1 n1 c1, .slice A2 n2 c2, .slice A3 n3 c3, .bool fa, .int .i64 fu, .slice A6 n6 c6] 31) (.cells #[.int .u8 o.f0, .int .i64 o.f1.f0, .int .i64 o.f1.f1, .int .i64 o.f2, .string o.f3, .int .i64 o.f4, .int .u8 o.f5, .slice A o.f6.length c] 37) (.cells #[.slice none 0 0, .slice none 0 0, .slice none 0 0, .slice none 0 0, .bool false, .int .i64 0, .slice none 0 0] 31)
  rw [← hw1] at g0 gw g1 hb1 ⊢
  obtain ⟨rb, hrb⟩ : ∃ rb, rb = W.heap.size + 1 + 1 := ⟨_, rfl⟩
  rw [← hrb] at g1 ⊢
  have hs1 : w1.heap.size = W.heap.size + 1 + 1 + 1 := by rw [hw1]; simp
  have LB := Aside0.mk (show W.heap.size ≤ rb ∧ rb < w1.heap.size from ⟨by omega, by omega⟩)
  have G1 := Aside0.mk g1
  have HB1 := Aside0.mk hb1
  clear hw1 g0 gw g1 hb1 hrb hs1
  refine (HC.out w1 HB1.out).mono ?_
  rintro e w2 ⟨v4, rfl, hR2, hb⟩
  obtain ⟨E0, E1, E2, E3, E6, d0_, d1_, d2_, d3_, d6_, gl, gu, gs, hRC⟩ := hR2.open_
  obtain rfl := hRC.hv
  obtain ⟨m0, hm0⟩ : ∃ m, m = S2.stable.length := ⟨_, rfl⟩
  obtain ⟨m1, hm1⟩ : ∃ m, m = S2.old.length := ⟨_, rfl⟩
  obtain ⟨m2, hm2⟩ : ∃ m, m = S2.pend.length := ⟨_, rfl⟩
  obtain ⟨m3, hm3⟩ : ∃ m, m = gl.length := ⟨_, rfl⟩
  obtain ⟨m6, hm6⟩ : ∃ m, m = gs.length := ⟨_, rfl⟩
  obtain ⟨ma, hma⟩ : ∃ m, m = S2.failed := ⟨_, rfl⟩
  rw [← hm0, ← hm1, ← hm2, ← hm3, ← hm6, ← hma]
  rw [← hm0, ← hm1, ← hm2, ← hm3, ← hm6, ← hma] at hR2
  have g1 := blk_below G1.out hb
  obtain ⟨r0, r1, r2, r3, r4, r5, r6⟩ := cells7 g1
  obtain ⟨s0, s1, s2, s3, s4, s5, s6⟩ := froz7 g1
  have HR2 := Aside0.mk hR2
  have G2 := Aside0.mk g1
  have HB2 := Aside0.mk (HB1.out.trans (hb.mono HB1.out.size))
  clear hRC hm0 hm1 hm2 hm3 hm6 hma hR2 g1 hb HC
  go_wp2_with fail
  have hbC := set7_below HB2.out LB.out.1 (.slice E0 m0 d0_) (.slice E1 m1 d1_) (.slice E2 m2 d2_) (.slice E3 m3 d3_) (.bool ma) (.int .i64 gu) (.slice E6 m6 d6_)
  refine bodyPost_ret (results_ct rfl _ _ rb 31 #[.slice E0 m0 d0_, .slice E1 m1 d1_, .slice E2 m2 d2_, .slice E3 m3 d3_, .bool ma, .int .i64 gu, .slice E6 m6 d6_] (0, 0) _ rfl (set7_blk G2.out (.slice E0 m0 d0_) (.slice E1 m1 d1_) (.slice E2 m2 d2_) (.slice E3 m3 d3_) (.bool ma) (.int .i64 gu) (.slice E6 m6 d6_)) Try.underlying31 rfl (by kernel_rfl)) rfl ?_
  refine ⟨_, rfl, ?_, hbC⟩
  exact (HR2.out.step (fun k hk _ => set7_far w2 rb (.slice E0 m0 d0_) (.slice E1 m1 d1_) (.slice E2 m2 d2_) (.slice E3 m3 d3_) (.bool ma) (.int .i64 gu) (.slice E6 m6 d6_) k (fun e => by have l1 := LB.out.1; have l2 := LB.out.2; rcases hk with hk | hk <;> omega))).mono (fun k hk _ => hk.elim (fun z => Or.inl z.1) (fun z => Or.inr (by have := HB1.out.size; omega)))
 ·have dd0 : (o.f0 % 8 == 0) = false := beq_eq_false_iff_ne.2 (by rw [HKD.out]; exact c_0)
  by_cases c_1 : kd = 1
  ·have dd1 : (o.f0 % 8 == 1) = true := by rw [HKD.out, c_1]; rfl
   rw [if_neg c_0] at hrs
   rw [if_pos c_1] at hrs
   have HC := Aside0.mk (fun (w : World) (hb : Below W.heap.size W w) => show Calls Try.prog 29 #[.agg #[.slice A0 n0 c0, .slice A1 n1 c1, .slice A2 n2 c2, .slice A3 n3 c3, .bool fa, .int .i64 fu, .slice A6 n6 c6], .agg #[.int .i64 o.f1.f0, .int .i64 o.f1.f1]] w fun e w' => RPost2 (fun k => ok k ∧ k < W.heap.size) r S2 w e w' from by
    have h := dosync_ref ((HR.out.mono (ok' := fun k => ok k ∧ k < W.heap.size) (fun k hk hlt => ⟨hk, hlt⟩)).below hb) HG.out hk o.f1.f0 o.f1.f1
    rw [hrs] at h
    exact h)
   clear hkb hrs c_0 c_1
   go_enter Try.func13, Try.ntmps13
   go_wp2_with fail
   obtain ⟨w1, hw1⟩ : ∃ w1, w1 = ((W.alloc (.cells #[.slice A0 n0 c0, .slice A1 n1 c1, .slice A2 n2 c2, .slice A3 n3 c3, .bool fa, .int .i64 fu, .slice A6 n6 c6] 31)).alloc (.cells #[.int .u8 o.f0, .int .i64 o.f1.f0, .int .i64 o.f1.f1, .int .i64 o.f2, .string o.f3, .int .i64 o.f4, .int .u8 o.f5, .slice A o.f6.length c] 37)).alloc (.cells #[.slice none 0 0, .slice none 0 0, .slice none 0 0, .slice none 0 0, .bool false, .int .i64 0, .slice none 0 0] 31) := ⟨_, rfl⟩
   obtain ⟨g0, gw, g1, hb1⟩ := three W (.cells #[.slice A0 n0 c0, .slice A1 n1 c1, .slice A2 n2 c2, .slice A3 n3 c3, .bool fa, .int .i64 fu, .slice A6 n6 c6] 31) (.cells #[.int .u8 o.f0, .int .i64 o.f1.f0, .int .i64 o.f1.f1, .int .i64 o.f2, .string o.f3, .int .i64 o.f4, .int .u8 o.f5, .slice A o.f6.length c] 37) (.cells #[.slice none 0 0, .slice none 0 0, .slice none 0 0, .slice none 0 0, .bool false, .int .i64 0, .slice none 0 0] 31)
   rw [← hw1] at g0 gw g1 hb1 ⊢
   obtain ⟨rb, hrb⟩ : ∃ rb, rb = W.heap.size + 1 + 1 := ⟨_, rfl⟩
   rw [← hrb] at g1 ⊢
   have hs1 : w1.heap.size = W.heap.size + 1 + 1 + 1 := by rw [hw1]; simp
   have LB := Aside0.mk (show W.heap.size ≤ rb ∧ rb < w1.heap.size from ⟨by omega, by omega⟩)
   have G1 := Aside0.mk g1
   have HB1 := Aside0.mk hb1
   clear hw1 g0 gw g1 hb1 hrb hs1
   refine (HC.out w1 HB1.out).mono ?_
   rintro e w2 ⟨v4, rfl, hR2, hb⟩
   obtain ⟨E0, E1, E2, E3, E6, d0_, d1_, d2_, d3_, d6_, gl, gu, gs, hRC⟩ := hR2.open_
   obtain rfl := hRC.hv
   obtain ⟨m0, hm0⟩ : ∃ m, m = S2.stable.length := ⟨_, rfl⟩
   obtain ⟨m1, hm1⟩ : ∃ m, m = S2.old.length := ⟨_, rfl⟩
   obtain ⟨m2, hm2⟩ : ∃ m, m = S2.pend.length := ⟨_, rfl⟩
   obtain ⟨m3, hm3⟩ : ∃ m, m = gl.length := ⟨_, rfl⟩
   obtain ⟨m6, hm6⟩ : ∃ m, m = gs.length := ⟨_, rfl⟩
   obtain ⟨ma, hma⟩ : ∃ m, m = S2.failed := ⟨_, rfl⟩
   rw [← hm0, ← hm1, ← hm2, ← hm3, ← hm6, ← hma]
   rw [← hm0, ← hm1, ← hm2, ← hm3, ← hm6, ← hma] at hR2
   have g1 := blk_below G1.out hb
   obtain ⟨r0, r1, r2, r3, r4, r5, r6⟩ := cells7 g1
   obtain ⟨s0, s1, s2, s3, s4, s5, s6⟩ := froz7 g1
   have HR2 := Aside0.mk hR2
   have G2 := Aside0.mk g1
   have HB2 := Aside0.mk (HB1.out.trans (hb.mono HB1.out.size))
   clear hRC hm0 hm1 hm2 hm3 hm6 hma hR2 g1 hb HC
   go_wp2_with fail
   have hbC := set7_below HB2.out LB.out.1 (.slice E0 m0 d0_) (.slice E1 m1 d1_) (.slice E2 m2 d2_) (.slice E3 m3 d3_) (.bool ma) (.int .i64 gu) (.slice E6 m6 d6_)
   refine bodyPost_ret (results_ct rfl _ _ rb 31 #[.slice E0 m0 d0_, .slice E1 m1 d1_, .slice E2 m2 d2_, .slice E3 m3 d3_, .bool ma, .int .i64 gu, .slice E6 m6 d6_] (0, 0) _ rfl (set7_blk G2.out (.slice E0 m0 d0_) (.slice E1 m1 d1_) (.slice E2 m2 d2_) (.slice E3 m3 d3_) (.bool ma) (.int .i64 gu) (.slice E6 m6 d6_)) Try.underlying31 rfl (by kernel_rfl)) rfl ?_
   refine ⟨_, rfl, ?_, hbC⟩
   exact (HR2.out.step (fun k hk _ => set7_far w2 rb (.slice E0 m0 d0_) (.slice E1 m1 d1_) (.slice E2 m2 d2_) (.slice E3 m3 d3_) (.bool ma) (.int .i64 gu) (.slice E6 m6 d6_) k (fun e => by have l1 := LB.out.1; have l2 := LB.out.2; rcases hk with hk | hk <;> omega))).mono (fun k hk _ => hk.elim (fun z => Or.inl z.1) (fun z => Or.inr (by have := HB1.out.size; omega)))
  ·have dd1 : (o.f0 % 8 == 1) = false := beq_eq_false_iff_ne.2 (by rw [HKD.out]; exact c_1)
   by_cases c_2 : kd = 2
   ·have dd2 : (o.f0 % 8 == 2) = true := by rw [HKD.out, c_2]; rfl
    rw [if_neg c_0] at hrs
    rw [if_neg c_1] at hrs
    rw [if_pos c_2] at hrs
    by_cases hsy : o.f1.f0 < 1
    ·have hn := finish_none (S := S) (isOf o.f1.f0) o.f6 (fun w hw => by have := (HG.out.fine.pend w hw).1; unfold isOf; exact beq_eq_false_iff_ne.2 (by omega))
     rw [hn] at hrs
     obtain ⟨hr0, hS2⟩ := Prod.mk.inj hrs
     subst hr0
     subst hS2
     have hd1 : decide (o.f1.f0 < 1) = true := decide_eq_true hsy
     clear hkb hrs hn hsy c_0 c_1 c_2
     go_enter Try.func13, Try.ntmps13
     go_wp2_with fail
     obtain ⟨g0, gw, g1, hb1⟩ := three W (.cells #[.slice A0 n0 c0, .slice A1 n1 c1, .slice A2 n2 c2, .slice A3 n3 c3, .bool fa, .int .i64 fu, .slice A6 n6 c6] 31) (.cells #[.int .u8 o.f0, .int .i64 o.f1.f0, .int .i64 o.f1.f1, .int .i64 o.f2, .string o.f3, .int .i64 o.f4, .int .u8 o.f5, .slice A o.f6.length c] 37) (.cells #[.slice A0 n0 c0, .slice A1 n1 c1, .slice A2 n2 c2, .slice A3 n3 c3, .bool fa, .int .i64 fu, .slice A6 n6 c6] 31)
     refine bodyPost_ret (results_ct rfl _ _ (W.heap.size + 1 + 1) 31 #[.slice A0 n0 c0, .slice A1 n1 c1, .slice A2 n2 c2, .slice A3 n3 c3, .bool fa, .int .i64 fu, .slice A6 n6 c6] (0, 0) _ rfl g1 Try.underlying31 rfl (by kernel_rfl)) rfl ?_
     refine ⟨_, rfl, ?_, hb1⟩
     exact (HR.out.below hb1).mono (fun k hk _ => Or.inl hk)
    ·have hd1 : decide (o.f1.f0 < 1) = false := decide_eq_false hsy
     obtain ⟨hr0, hS2⟩ := Prod.mk.inj hrs
     subst hr0
     have HC := Aside0.mk (fun (w : World) (hb : Below W.heap.size W w) => show Calls Try.prog 30 #[.agg #[.slice A0 n0 c0, .slice A1 n1 c1, .slice A2 n2 c2, .slice A3 n3 c3, .bool fa, .int .i64 fu, .slice A6 n6 c6], .int .i64 o.f1.f0, .slice A o.f6.length c, .bool false] w fun e w' => RChPost (fun k => ok k ∧ k < W.heap.size) S2 w e w' from by
      have h := end_ref ((HR.out.mono (ok' := fun k => ok k ∧ k < W.heap.size) (fun k hk hlt => ⟨hk, hlt⟩)).below hb) HG.out.fine hk (isOf o.f1.f0) o.f1.f0 (fun w => by have h2 : decide (o.f1.f0 = 0) = false := decide_eq_false (by omega); rw [h2, Bool.false_or]; rfl) A c o.f6 o.f6 (Kd.C_below HL.out hb) hlc (Nat.le_trans hlm (by decide)) false (fun z => by cases z) (fun k _ => rfl)
      rw [hS2] at h
      exact h)
     clear hkb hrs c_0 c_1 c_2 hS2
     clear hsy
     go_enter Try.func13, Try.ntmps13
     go_wp2_with fail
     obtain ⟨w1, hw1⟩ : ∃ w1, w1 = ((W.alloc (.cells #[.slice A0 n0 c0, .slice A1 n1 c1, .slice A2 n2 c2, .slice A3 n3 c3, .bool fa, .int .i64 fu, .slice A6 n6 c6] 31)).alloc (.cells #[.int .u8 o.f0, .int .i64 o.f1.f0, .int .i64 o.f1.f1, .int .i64 o.f2, .string o.f3, .int .i64 o.f4, .int .u8 o.f5, .slice A o.f6.length c] 37)).alloc (.cells #[.slice none 0 0, .slice none 0 0, .slice none 0 0, .slice none 0 0, .bool false, .int .i64 0, .slice none 0 0] 31) := ⟨_, rfl⟩
     obtain ⟨g0, gw, g1, hb1⟩ := three W (.cells #[.slice A0 n0 c0, .slice A1 n1 c1, .slice A2 n2 c2, .slice A3 n3 c3, .bool fa, .int .i64 fu, .slice A6 n6 c6] 31) (.cells #[.int .u8 o.f0, .int .i64 o.f1.f0, .int .i64 o.f1.f1, .int .i64 o.f2, .string o.f3, .int .i64 o.f4, .int .u8 o.f5, .slice A o.f6.length c] 37) (.cells #[.slice none 0 0, .slice none 0 0, .slice none 0 0, .slice none 0 0, .bool false, .int .i64 0, .slice none 0 0] 31)
     rw [← hw1] at g0 gw g1 hb1 ⊢
     obtain ⟨rb, hrb⟩ : ∃ rb, rb = W.heap.size + 1 + 1 := ⟨_, rfl⟩
     rw [← hrb] at g1 ⊢
     have hs1 : w1.heap.size = W.heap.size + 1 + 1 + 1 := by rw [hw1]; simp
     have LB := Aside0.mk (show W.heap.size ≤ rb ∧ rb < w1.heap.size from ⟨by omega, by omega⟩)
     have G1 := Aside0.mk g1
     have HB1 := Aside0.mk hb1
     clear hw1 g0 gw g1 hb1 hrb hs1
     refine (HC.out w1 HB1.out).mono ?_
     rintro e w2 ⟨v4, rfl, hR2, hb⟩
     obtain ⟨E0, E1, E2, E3, E6, d0_, d1_, d2_, d3_, d6_, gl, gu, gs, hRC⟩ := hR2.open_
     obtain rfl := hRC.hv
     obtain ⟨m0, hm0⟩ : ∃ m, m = S2.stable.length := ⟨_, rfl⟩
     obtain ⟨m1, hm1⟩ : ∃ m, m = S2.old.length := ⟨_, rfl⟩
     obtain ⟨m2, hm2⟩ : ∃ m, m = S2.pend.length := ⟨_, rfl⟩
     obtain ⟨m3, hm3⟩ : ∃ m, m = gl.length := ⟨_, rfl⟩
     obtain ⟨m6, hm6⟩ : ∃ m, m = gs.length := ⟨_, rfl⟩
     obtain ⟨ma, hma⟩ : ∃ m, m = S2.failed := ⟨_, rfl⟩
     rw [← hm0, ← hm1, ← hm2, ← hm3, ← hm6, ← hma]
     rw [← hm0, ← hm1, ← hm2, ← hm3, ← hm6, ← hma] at hR2
     have g1 := blk_below G1.out hb
     obtain ⟨r0, r1, r2, r3, r4, r5, r6⟩ := cells7 g1
     obtain ⟨s0, s1, s2, s3, s4, s5, s6⟩ := froz7 g1
     have HR2 := Aside0.mk hR2
     have G2 := Aside0.mk g1
     have HB2 := Aside0.mk (HB1.out.trans (hb.mono HB1.out.size))
     clear hRC hm0 hm1 hm2 hm3 hm6 hma hR2 g1 hb HC
     go_wp2_with fail
     have hbC := set7_below HB2.out LB.out.1 (.slice E0 m0 d0_) (.slice E1 m1 d1_) (.slice E2 m2 d2_) (.slice E3 m3 d3_) (.bool ma) (.int .i64 gu) (.slice E6 m6 d6_)
     refine bodyPost_ret (results_ct rfl _ _ rb 31 #[.slice E0 m0 d0_, .slice E1 m1 d1_, .slice E2 m2 d2_, .slice E3 m3 d3_, .bool ma, .int .i64 gu, .slice E6 m6 d6_] (0, 0) _ rfl (set7_blk G2.out (.slice E0 m0 d0_) (.slice E1 m1 d1_) (.slice E2 m2 d2_) (.slice E3 m3 d3_) (.bool ma) (.int .i64 gu) (.slice E6 m6 d6_)) Try.underlying31 rfl (by kernel_rfl)) rfl ?_
     refine ⟨_, rfl, ?_, hbC⟩
     exact (HR2.out.step (fun k hk _ => set7_far w2 rb (.slice E0 m0 d0_) (.slice E1 m1 d1_) (.slice E2 m2 d2_) (.slice E3 m3 d3_) (.bool ma) (.int .i64 gu) (.slice E6 m6 d6_) k (fun e => by have l1 := LB.out.1; have l2 := LB.out.2; rcases hk with hk | hk <;> omega))).mono (fun k hk _ => hk.elim (fun z => Or.inl z.1) (fun z => Or.inr (by have := HB1.out.size; omega)))
   ·have dd2 : (o.f0 % 8 == 2) = false := beq_eq_false_iff_ne.2 (by rw [HKD.out]; exact c_2)
    by_cases c_3 : kd = 3
    ·have dd3 : (o.f0 % 8 == 3) = true := by rw [HKD.out, c_3]; rfl
     rw [if_neg c_0] at hrs
     rw [if_neg c_1] at hrs
     rw [if_neg c_2] at hrs
     rw [if_pos c_3] at hrs
     obtain ⟨hr0, hS2⟩ := Prod.mk.inj hrs
     subst hr0
     have HC := Aside0.mk (fun (w : World) (hb : Below W.heap.size W w) => show Calls Try.prog 31 #[.agg #[.slice A0 n0 c0, .slice A1 n1 c1, .slice A2 n2 c2, .slice A3 n3 c3, .bool fa, .int .i64 fu, .slice A6 n6 c6], .int .i64 o.f1.f0, .int .i64 o.f1.f1] w fun e w' => RChPost (fun k => ok k ∧ k < W.heap.size) S2 w e w' from by
      have h := fence_ref ((HR.out.mono (ok' := fun k => ok k ∧ k < W.heap.size) (fun k hk hlt => ⟨hk, hlt⟩)).below hb) o.f1.f0 o.f1.f1
      rw [hS2] at h
      exact h)
     clear hkb hrs c_0 c_1 c_2 c_3 hS2
     go_enter Try.func13, Try.ntmps13
     go_wp2_with fail
     obtain ⟨w1, hw1⟩ : ∃ w1, w1 = ((W.alloc (.cells #[.slice A0 n0 c0, .slice A1 n1 c1, .slice A2 n2 c2, .slice A3 n3 c3, .bool fa, .int .i64 fu, .slice A6 n6 c6] 31)).alloc (.cells #[.int .u8 o.f0, .int .i64 o.f1.f0, .int .i64 o.f1.f1, .int .i64 o.f2, .string o.f3, .int .i64 o.f4, .int .u8 o.f5, .slice A o.f6.length c] 37)).alloc (.cells #[.slice none 0 0, .slice none 0 0, .slice none 0 0, .slice none 0 0, .bool false, .int .i64 0, .slice none 0 0] 31) := ⟨_, rfl⟩
     obtain ⟨g0, gw, g1, hb1⟩ := three W (.cells #[.slice A0 n0 c0, .slice A1 n1 c1, .slice A2 n2 c2, .slice A3 n3 c3, .bool fa, .int .i64 fu, .slice A6 n6 c6] 31) (.cells #[.int .u8 o.f0, .int .i64 o.f1.f0, .int .i64 o.f1.f1, .int .i64 o.f2, .string o.f3, .int .i64 o.f4, .int .u8 o.f5, .slice A o.f6.length c] 37) (.cells #[.slice none 0 0, .slice none 0 0, .slice none 0 0, .slice none 0 0, .bool false, .int .i64 0, .slice none 0 0] 31)
     rw [← hw1] at g0 gw g1 hb1 ⊢
     obtain ⟨rb, hrb⟩ : ∃ rb, rb = W.heap.size + 1 + 1 := ⟨_, rfl⟩
     rw [← hrb] at g1 ⊢
     have hs1 : w1.heap.size = W.heap.size + 1 + 1 + 1 := by rw [hw1]; simp
     have LB := Aside0.mk (show W.heap.size ≤ rb ∧ rb < w1.heap.size from ⟨by omega, by omega⟩)
     have G1 := Aside0.mk g1
     have HB1 := Aside0.mk hb1
     clear hw1 g0 gw g1 hb1 hrb hs1
     refine (HC.out w1 HB1.out).mono ?_
     rintro e w2 ⟨v4, rfl, hR2, hb⟩
     obtain ⟨E0, E1, E2, E3, E6, d0_, d1_, d2_, d3_, d6_, gl, gu, gs, hRC⟩ := hR2.open_
     obtain rfl := hRC.hv
     obtain ⟨m0, hm0⟩ : ∃ m, m = S2.stable.length := ⟨_, rfl⟩
     obtain ⟨m1, hm1⟩ : ∃ m, m = S2.old.length := ⟨_, rfl⟩
     obtain ⟨m2, hm2⟩ : ∃ m, m = S2.pend.length := ⟨_, rfl⟩
     obtain ⟨m3, hm3⟩ : ∃ m, m = gl.length := ⟨_, rfl⟩
     obtain ⟨m6, hm6⟩ : ∃ m, m = gs.length := ⟨_, rfl⟩
     obtain ⟨ma, hma⟩ : ∃ m, m = S2.failed := ⟨_, rfl⟩
     rw [← hm0, ← hm1, ← hm2, ← hm3, ← hm6, ← hma]
     rw [← hm0, ← hm1, ← hm2, ← hm3, ← hm6, ← hma] at hR2
     have g1 := blk_below G1.out hb
     obtain ⟨r0, r1, r2, r3, r4, r5, r6⟩ := cells7 g1
     obtain ⟨s0, s1, s2, s3, s4, s5, s6⟩ := froz7 g1
     have HR2 := Aside0.mk hR2
     have G2 := Aside0.mk g1
     have HB2 := Aside0.mk (HB1.out.trans (hb.mono HB1.out.size))
     clear hRC hm0 hm1 hm2 hm3 hm6 hma hR2 g1 hb HC
     go_wp2_with fail
     have hbC := set7_below HB2.out LB.out.1 (.slice E0 m0 d0_) (.slice E1 m1 d1_) (.slice E2 m2 d2_) (.slice E3 m3 d3_) (.bool ma) (.int .i64 gu) (.slice E6 m6 d6_)
     refine bodyPost_ret (results_ct rfl _ _ rb 31 #[.slice E0 m0 d0_, .slice E1 m1 d1_, .slice E2 m2 d2_, .slice E3 m3 d3_, .bool ma, .int .i64 gu, .slice E6 m6 d6_] (0, 0) _ rfl (set7_blk G2.out (.slice E0 m0 d0_) (.slice E1 m1 d1_) (.slice E2 m2 d2_) (.slice E3 m3 d3_) (.bool ma) (.int .i64 gu) (.slice E6 m6 d6_)) Try.underlying31 rfl (by kernel_rfl)) rfl ?_
     refine ⟨_, rfl, ?_, hbC⟩
     exact (HR2.out.step (fun k hk _ => set7_far w2 rb (.slice E0 m0 d0_) (.slice E1 m1 d1_) (.slice E2 m2 d2_) (.slice E3 m3 d3_) (.bool ma) (.int .i64 gu) (.slice E6 m6 d6_) k (fun e => by have l1 := LB.out.1; have l2 := LB.out.2; rcases hk with hk | hk <;> omega))).mono (fun k hk _ => hk.elim (fun z => Or.inl z.1) (fun z => Or.inr (by have := HB1.out.size; omega)))
    ·have dd3 : (o.f0 % 8 == 3) = false := beq_eq_false_iff_ne.2 (by rw [HKD.out]; exact c_3)
     by_cases c_4 : kd = 4
     ·have dd4 : (o.f0 % 8 == 4) = true := by rw [HKD.out, c_4]; rfl
      rw [if_neg c_0] at hrs
      rw [if_neg c_1] at hrs
      rw [if_neg c_2] at hrs
      rw [if_neg c_3] at hrs
      rw [if_pos c_4] at hrs
      obtain ⟨hr0, hS2⟩ := Prod.mk.inj hrs
      subst hr0
      have HC := Aside0.mk (fun (w : World) (hb : Below W.heap.size W w) => show Calls Try.prog 32 #[.agg #[.slice A0 n0 c0, .slice A1 n1 c1, .slice A2 n2 c2, .slice A3 n3 c3, .bool fa, .int .i64 fu, .slice A6 n6 c6], .int .i64 o.f4, .slice A o.f6.length c] w fun e w' => RChPost (fun k => ok k ∧ k < W.heap.size) S2 w e w' from by
       have h := failafter_ref ((HR.out.mono (ok' := fun k => ok k ∧ k < W.heap.size) (fun k hk hlt => ⟨hk, hlt⟩)).below hb) o.f4 A c o.f6 (Kd.C_below HL.out hb) hlm
       rw [hS2] at h
       exact h)
      clear hkb hrs c_0 c_1 c_2 c_3 c_4 hS2
      go_enter Try.func13, Try.ntmps13
      go_wp2_with fail
      obtain ⟨w1, hw1⟩ : ∃ w1, w1 = ((W.alloc (.cells #[.slice A0 n0 c0, .slice A1 n1 c1, .slice A2 n2 c2, .slice A3 n3 c3, .bool fa, .int .i64 fu, .slice A6 n6 c6] 31)).alloc (.cells #[.int .u8 o.f0, .int .i64 o.f1.f0, .int .i64 o.f1.f1, .int .i64 o.f2, .string o.f3, .int .i64 o.f4, .int .u8 o.f5, .slice A o.f6.length c] 37)).alloc (.cells #[.slice none 0 0, .slice none 0 0, .slice none 0 0, .slice none 0 0, .bool false, .int .i64 0, .slice none 0 0] 31) := ⟨_, rfl⟩
      obtain ⟨g0, gw, g1, hb1⟩ := three W (.cells #[.slice A0 n0 c0, .slice A1 n1 c1, .slice A2 n2 c2, .slice A3 n3 c3, .bool fa, .int .i64 fu, .slice A6 n6 c6] 31) (.cells #[.int .u8 o.f0, .int .i64 o.f1.f0, .int .i64 o.f1.f1, .int .i64 o.f2, .string o.f3, .int .i64 o.f4, .int .u8 o.f5, .slice A o.f6.length c] 37) (.cells #[.slice none 0 0, .slice none 0 0, .slice none 0 0, .slice none 0 0, .bool false, .int .i64 0, .slice none 0 0] 31)
      rw [← hw1] at g0 gw g1 hb1 ⊢
      obtain ⟨rb, hrb⟩ : ∃ rb, rb = W.heap.size + 1 + 1 := ⟨_, rfl⟩
      rw [← hrb] at g1 ⊢
      have hs1 : w1.heap.size = W.heap.size + 1 + 1 + 1 := by rw [hw1]; simp
      have LB := Aside0.mk (show W.heap.size ≤ rb ∧ rb < w1.heap.size from ⟨by omega, by omega⟩)
      have G1 := Aside0.mk g1
      have HB1 := Aside0.mk hb1
      clear hw1 g0 gw g1 hb1 hrb hs1
      refine (HC.out w1 HB1.out).mono ?_
      rintro e w2 ⟨v4, rfl, hR2, hb⟩
      obtain ⟨E0, E1, E2, E3, E6, d0_, d1_, d2_, d3_, d6_, gl, gu, gs, hRC⟩ := hR2.open_
      obtain rfl := hRC.hv
      obtain ⟨m0, hm0⟩ : ∃ m, m = S2.stable.length := ⟨_, rfl⟩
      obtain ⟨m1, hm1⟩ : ∃ m, m = S2.old.length := ⟨_, rfl⟩
      obtain ⟨m2, hm2⟩ : ∃ m, m = S2.pend.length := ⟨_, rfl⟩
      obtain ⟨m3, hm3⟩ : ∃ m, m = gl.length := ⟨_, rfl⟩
      obtain ⟨m6, hm6⟩ : ∃ m, m = gs.length := ⟨_, rfl⟩
      obtain ⟨ma, hma⟩ : ∃ m, m = S2.failed := ⟨_, rfl⟩
      rw [← hm0, ← hm1, ← hm2, ← hm3, ← hm6, ← hma]
      rw [← hm0, ← hm1, ← hm2, ← hm3, ← hm6, ← hma] at hR2
      have g1 := blk_below G1.out hb
      obtain ⟨r0, r1, r2, r3, r4, r5, r6⟩ := cells7 g1
      obtain ⟨s0, s1, s2, s3, s4, s5, s6⟩ := froz7 g1
      have HR2 := Aside0.mk hR2
      have G2 := Aside0.mk g1
      have HB2 := Aside0.mk (HB1.out.trans (hb.mono HB1.out.size))
      clear hRC hm0 hm1 hm2 hm3 hm6 hma hR2 g1 hb HC
      go_wp2_with fail
      have hbC := set7_below HB2.out LB.out.1 (.slice E0 m0 d0_) (.slice E1 m1 d1_) (.slice E2 m2 d2_) (.slice E3 m3 d3_) (.bool ma) (.int .i64 gu) (.slice E6 m6 d6_)
      refine bodyPost_ret (results_ct rfl _ _ rb 31 #[.slice E0 m0 d0_, .slice E1 m1 d1_, .slice E2 m2 d2_, .slice E3 m3 d3_, .bool ma, .int .i64 gu, .slice E6 m6 d6_] (0, 0) _ rfl (set7_blk G2.out (.slice E0 m0 d0_) (.slice E1 m1 d1_) (.slice E2 m2 d2_) (.slice E3 m3 d3_) (.bool ma) (.int .i64 gu) (.slice E6 m6 d6_)) Try.underlying31 rfl (by kernel_rfl)) rfl ?_
      refine ⟨_, rfl, ?_, hbC⟩
      exact (HR2.out.step (fun k hk _ => set7_far w2 rb (.slice E0 m0 d0_) (.slice E1 m1 d1_) (.slice E2 m2 d2_) (.slice E3 m3 d3_) (.bool ma) (.int .i64 gu) (.slice E6 m6 d6_) k (fun e => by have l1 := LB.out.1; have l2 := LB.out.2; rcases hk with hk | hk <;> omega))).mono (fun k hk _ => hk.elim (fun z => Or.inl z.1) (fun z => Or.inr (by have := HB1.out.size; omega)))
     ·have dd4 : (o.f0 % 8 == 4) = false := beq_eq_false_iff_ne.2 (by rw [HKD.out]; exact c_4)
      by_cases c_5 : kd = 5
      ·have dd5 : (o.f0 % 8 == 5) = true := by rw [HKD.out, c_5]; rfl
       rw [if_neg c_0] at hrs
       rw [if_neg c_1] at hrs
       rw [if_neg c_2] at hrs
       rw [if_neg c_3] at hrs
       rw [if_neg c_4] at hrs
       rw [if_pos c_5] at hrs
       obtain ⟨hr0, hS2⟩ := Prod.mk.inj hrs
       subst hr0
       have HC := Aside0.mk (fun (w : World) (hb : Below W.heap.size W w) => show Calls Try.prog 33 #[.agg #[.slice A0 n0 c0, .slice A1 n1 c1, .slice A2 n2 c2, .slice A3 n3 c3, .bool fa, .int .i64 fu, .slice A6 n6 c6]] w fun e w' => RChPost (fun k => ok k ∧ k < W.heap.size) S2 w e w' from by
        have h := repair_ref ((HR.out.mono (ok' := fun k => ok k ∧ k < W.heap.size) (fun k hk hlt => ⟨hk, hlt⟩)).below hb)
        rw [hS2] at h
        exact h)
       clear hkb hrs c_0 c_1 c_2 c_3 c_4 c_5 hS2
       go_enter Try.func13, Try.ntmps13
       go_wp2_with fail
       obtain ⟨w1, hw1⟩ : ∃ w1, w1 = ((W.alloc (.cells #[.slice A0 n0 c0, .slice A1 n1 c1, .slice A2 n2 c2, .slice A3 n3 c3, .bool fa, .int .i64 fu, .slice A6 n6 c6] 31)).alloc (.cells #[.int .u8 o.f0, .int .i64 o.f1.f0, .int .i64 o.f1.f1, .int .i64 o.f2, .string o.f3, .int .i64 o.f4, .int .u8 o.f5, .slice A o.f6.length c] 37)).alloc (.cells #[.slice none 0 0, .slice none 0 0, .slice none 0 0, .slice none 0 0, .bool false, .int .i64 0, .slice none 0 0] 31) := ⟨_, rfl⟩
       obtain ⟨g0, gw, g1, hb1⟩ := three W (.cells #[.slice A0 n0 c0, .slice A1 n1 c1, .slice A2 n2 c2, .slice A3 n3 c3, .bool fa, .int .i64 fu, .slice A6 n6 c6] 31) (.cells #[.int .u8 o.f0, .int .i64 o.f1.f0, .int .i64 o.f1.f1, .int .i64 o.f2, .string o.f3, .int .i64 o.f4, .int .u8 o.f5, .slice A o.f6.length c] 37) (.cells #[.slice none 0 0, .slice none 0 0, .slice none 0 0, .slice none 0 0, .bool false, .int .i64 0, .slice none 0 0] 31)
       rw [← hw1] at g0 gw g1 hb1 ⊢
       obtain ⟨rb, hrb⟩ : ∃ rb, rb = W.heap.size + 1 + 1 := ⟨_, rfl⟩
       rw [← hrb] at g1 ⊢
       have hs1 : w1.heap.size = W.heap.size + 1 + 1 + 1 := by rw [hw1]; simp
       have LB := Aside0.mk (show W.heap.size ≤ rb ∧ rb < w1.heap.size from ⟨by omega, by omega⟩)
       have G1 := Aside0.mk g1
       have HB1 := Aside0.mk hb1
       clear hw1 g0 gw g1 hb1 hrb hs1
       refine (HC.out w1 HB1.out).mono ?_
       rintro e w2 ⟨v4, rfl, hR2, hb⟩
       obtain ⟨E0, E1, E2, E3, E6, d0_, d1_, d2_, d3_, d6_, gl, gu, gs, hRC⟩ := hR2.open_
       obtain rfl := hRC.hv
       obtain ⟨m0, hm0⟩ : ∃ m, m = S2.stable.length := ⟨_, rfl⟩
       obtain ⟨m1, hm1⟩ : ∃ m, m = S2.old.length := ⟨_, rfl⟩
       obtain ⟨m2, hm2⟩ : ∃ m, m = S2.pend.length := ⟨_, rfl⟩
       obtain ⟨m3, hm3⟩ : ∃ m, m = gl.length := ⟨_, rfl⟩
       obtain ⟨m6, hm6⟩ : ∃ m, m = gs.length := ⟨_, rfl⟩
       obtain ⟨ma, hma⟩ : ∃ m, m = S2.failed := ⟨_, rfl⟩
       rw [← hm0, ← hm1, ← hm2, ← hm3, ← hm6, ← hma]
       rw [← hm0, ← hm1, ← hm2, ← hm3, ← hm6, ← hma] at hR2
       have g1 := blk_below G1.out hb
       obtain ⟨r0, r1, r2, r3, r4, r5, r6⟩ := cells7 g1
       obtain ⟨s0, s1, s2, s3, s4, s5, s6⟩ := froz7 g1
       have HR2 := Aside0.mk hR2
       have G2 := Aside0.mk g1
       have HB2 := Aside0.mk (HB1.out.trans (hb.mono HB1.out.size))
       clear hRC hm0 hm1 hm2 hm3 hm6 hma hR2 g1 hb HC
       go_wp2_with fail
       have hbC := set7_below HB2.out LB.out.1 (.slice E0 m0 d0_) (.slice E1 m1 d1_) (.slice E2 m2 d2_) (.slice E3 m3 d3_) (.bool ma) (.int .i64 gu) (.slice E6 m6 d6_)
       refine bodyPost_ret (results_ct rfl _ _ rb 31 #[.slice E0 m0 d0_, .slice E1 m1 d1_, .slice E2 m2 d2_, .slice E3 m3 d3_, .bool ma, .int .i64 gu, .slice E6 m6 d6_] (0, 0) _ rfl (set7_blk G2.out (.slice E0 m0 d0_) (.slice E1 m1 d1_) (.slice E2 m2 d2_) (.slice E3 m3 d3_) (.bool ma) (.int .i64 gu) (.slice E6 m6 d6_)) Try.underlying31 rfl (by kernel_rfl)) rfl ?_
       refine ⟨_, rfl, ?_, hbC⟩
       exact (HR2.out.step (fun k hk _ => set7_far w2 rb (.slice E0 m0 d0_) (.slice E1 m1 d1_) (.slice E2 m2 d2_) (.slice E3 m3 d3_) (.bool ma) (.int .i64 gu) (.slice E6 m6 d6_) k (fun e => by have l1 := LB.out.1; have l2 := LB.out.2; rcases hk with hk | hk <;> omega))).mono (fun k hk _ => hk.elim (fun z => Or.inl z.1) (fun z => Or.inr (by have := HB1.out.size; omega)))
      ·have dd5 : (o.f0 % 8 == 5) = false := beq_eq_false_iff_ne.2 (by rw [HKD.out]; exact c_5)
       by_cases c_6 : kd = 6
       ·have dd6 : (o.f0 % 8 == 6) = true := by rw [HKD.out, c_6]; rfl
        rw [if_neg c_0] at hrs
        rw [if_neg c_1] at hrs
        rw [if_neg c_2] at hrs
        rw [if_neg c_3] at hrs
        rw [if_neg c_4] at hrs
        rw [if_neg c_5] at hrs
        rw [if_pos c_6] at hrs
        have HC := Aside0.mk (fun (w : World) (hb : Below W.heap.size W w) => show Calls Try.prog 34 #[.agg #[.slice A0 n0 c0, .slice A1 n1 c1, .slice A2 n2 c2, .slice A3 n3 c3, .bool fa, .int .i64 fu, .slice A6 n6 c6], .int .i64 o.f2, .int .i64 o.f4, .int .u8 o.f5] w fun e w' => RPost2 (fun k => ok k ∧ k < W.heap.size) r S2 w e w' from by
         have h := damage_ref ((HR.out.mono (ok' := fun k => ok k ∧ k < W.heap.size) (fun k hk hlt => ⟨hk, hlt⟩)).below hb) HG.out.fine o.f2 o.f4 o.f5
         rw [hrs] at h
         exact h)
        clear hkb hrs c_0 c_1 c_2 c_3 c_4 c_5 c_6
        go_enter Try.func13, Try.ntmps13
        go_wp2_with fail
        obtain ⟨w1, hw1⟩ : ∃ w1, w1 = ((W.alloc (.cells #[.slice A0 n0 c0, .slice A1 n1 c1, .slice A2 n2 c2, .slice A3 n3 c3, .bool fa, .int .i64 fu, .slice A6 n6 c6] 31)).alloc (.cells #[.int .u8 o.f0, .int .i64 o.f1.f0, .int .i64 o.f1.f1, .int .i64 o.f2, .string o.f3, .int .i64 o.f4, .int .u8 o.f5, .slice A o.f6.length c] 37)).alloc (.cells #[.slice none 0 0, .slice none 0 0, .slice none 0 0, .slice none 0 0, .bool false, .int .i64 0, .slice none 0 0] 31) := ⟨_, rfl⟩
        obtain ⟨g0, gw, g1, hb1⟩ := three W (.cells #[.slice A0 n0 c0, .slice A1 n1 c1, .slice A2 n2 c2, .slice A3 n3 c3, .bool fa, .int .i64 fu, .slice A6 n6 c6] 31) (.cells #[.int .u8 o.f0, .int .i64 o.f1.f0, .int .i64 o.f1.f1, .int .i64 o.f2, .string o.f3, .int .i64 o.f4, .int .u8 o.f5, .slice A o.f6.length c] 37) (.cells #[.slice none 0 0, .slice none 0 0, .slice none 0 0, .slice none 0 0, .bool false, .int .i64 0, .slice none 0 0] 31)
        rw [← hw1] at g0 gw g1 hb1 ⊢
        obtain ⟨rb, hrb⟩ : ∃ rb, rb = W.heap.size + 1 + 1 := ⟨_, rfl⟩
        rw [← hrb] at g1 ⊢
        have hs1 : w1.heap.size = W.heap.size + 1 + 1 + 1 := by rw [hw1]; simp
        have LB := Aside0.mk (show W.heap.size ≤ rb ∧ rb < w1.heap.size from ⟨by omega, by omega⟩)
        have G1 := Aside0.mk g1
        have HB1 := Aside0.mk hb1
        clear hw1 g0 gw g1 hb1 hrb hs1
        refine (HC.out w1 HB1.out).mono ?_
        rintro e w2 ⟨v4, rfl, hR2, hb⟩
        obtain ⟨E0, E1, E2, E3, E6, d0_, d1_, d2_, d3_, d6_, gl, gu, gs, hRC⟩ := hR2.open_
        obtain rfl := hRC.hv
        obtain ⟨m0, hm0⟩ : ∃ m, m = S2.stable.length := ⟨_, rfl⟩
        obtain ⟨m1, hm1⟩ : ∃ m, m = S2.old.length := ⟨_, rfl⟩
        obtain ⟨m2, hm2⟩ : ∃ m, m = S2.pend.length := ⟨_, rfl⟩
        obtain ⟨m3, hm3⟩ : ∃ m, m = gl.length := ⟨_, rfl⟩
        obtain ⟨m6, hm6⟩ : ∃ m, m = gs.length := ⟨_, rfl⟩
        obtain ⟨ma, hma⟩ : ∃ m, m = S2.failed := ⟨_, rfl⟩
        rw [← hm0, ← hm1, ← hm2, ← hm3, ← hm6, ← hma]
        rw [← hm0, ← hm1, ← hm2, ← hm3, ← hm6, ← hma] at hR2
        have g1 := blk_below G1.out hb
        obtain ⟨r0, r1, r2, r3, r4, r5, r6⟩ := cells7 g1
        obtain ⟨s0, s1, s2, s3, s4, s5, s6⟩ := froz7 g1
        have HR2 := Aside0.mk hR2
        have G2 := Aside0.mk g1
        have HB2 := Aside0.mk (HB1.out.trans (hb.mono HB1.out.size))
        clear hRC hm0 hm1 hm2 hm3 hm6 hma hR2 g1 hb HC
        go_wp2_with fail
        have hbC := set7_below HB2.out LB.out.1 (.slice E0 m0 d0_) (.slice E1 m1 d1_) (.slice E2 m2 d2_) (.slice E3 m3 d3_) (.bool ma) (.int .i64 gu) (.slice E6 m6 d6_)
        refine bodyPost_ret (results_ct rfl _ _ rb 31 #[.slice E0 m0 d0_, .slice E1 m1 d1_, .slice E2 m2 d2_, .slice E3 m3 d3_, .bool ma, .int .i64 gu, .slice E6 m6 d6_] (0, 0) _ rfl (set7_blk G2.out (.slice E0 m0 d0_) (.slice E1 m1 d1_) (.slice E2 m2 d2_) (.slice E3 m3 d3_) (.bool ma) (.int .i64 gu) (.slice E6 m6 d6_)) Try.underlying31 rfl (by kernel_rfl)) rfl ?_
        refine ⟨_, rfl, ?_, hbC⟩
        exact (HR2.out.step (fun k hk _ => set7_far w2 rb (.slice E0 m0 d0_) (.slice E1 m1 d1_) (.slice E2 m2 d2_) (.slice E3 m3 d3_) (.bool ma) (.int .i64 gu) (.slice E6 m6 d6_) k (fun e => by have l1 := LB.out.1; have l2 := LB.out.2; rcases hk with hk | hk <;> omega))).mono (fun k hk _ => hk.elim (fun z => Or.inl z.1) (fun z => Or.inr (by have := HB1.out.size; omega)))
       ·have dd6 : (o.f0 % 8 == 6) = false := beq_eq_false_iff_ne.2 (by rw [HKD.out]; exact c_6)
        have c_7 : kd = 7 := by omega
        rw [if_neg c_0] at hrs
        rw [if_neg c_1] at hrs
        rw [if_neg c_2] at hrs
        rw [if_neg c_3] at hrs
        rw [if_neg c_4] at hrs
        rw [if_neg c_5] at hrs
        rw [if_neg c_6] at hrs
        have HC := Aside0.mk (fun (w : World) (hb : Below W.heap.size W w) => show Calls Try.prog 35 #[.agg #[.slice A0 n0 c0, .slice A1 n1 c1, .slice A2 n2 c2, .slice A3 n3 c3, .bool fa, .int .i64 fu, .slice A6 n6 c6], .int .i64 o.f2, .int .i64 o.f4] w fun e w' => RPost2 (fun k => ok k ∧ k < W.heap.size) r S2 w e w' from by
         have h := return_ref ((HR.out.mono (ok' := fun k => ok k ∧ k < W.heap.size) (fun k hk hlt => ⟨hk, hlt⟩)).below hb) HG.out.fine o.f2 o.f4
         rw [hrs] at h
         exact h)
        clear hkb hrs c_0 c_1 c_2 c_3 c_4 c_5 c_6 c_7
        go_enter Try.func13, Try.ntmps13
        go_wp2_with fail
        obtain ⟨w1, hw1⟩ : ∃ w1, w1 = ((W.alloc (.cells #[.slice A0 n0 c0, .slice A1 n1 c1, .slice A2 n2 c2, .slice A3 n3 c3, .bool fa, .int .i64 fu, .slice A6 n6 c6] 31)).alloc (.cells #[.int .u8 o.f0, .int .i64 o.f1.f0, .int .i64 o.f1.f1, .int .i64 o.f2, .string o.f3, .int .i64 o.f4, .int .u8 o.f5, .slice A o.f6.length c] 37)).alloc (.cells #[.slice none 0 0, .slice none 0 0, .slice none 0 0, .slice none 0 0, .bool false, .int .i64 0, .slice none 0 0] 31) := ⟨_, rfl⟩
        obtain ⟨g0, gw, g1, hb1⟩ := three W (.cells #[.slice A0 n0 c0, .slice A1 n1 c1, .slice A2 n2 c2, .slice A3 n3 c3, .bool fa, .int .i64 fu, .slice A6 n6 c6] 31) (.cells #[.int .u8 o.f0, .int .i64 o.f1.f0, .int .i64 o.f1.f1, .int .i64 o.f2, .string o.f3, .int .i64 o.f4, .int .u8 o.f5, .slice A o.f6.length c] 37) (.cells #[.slice none 0 0, .slice none 0 0, .slice none 0 0, .slice none 0 0, .bool false, .int .i64 0, .slice none 0 0] 31)
        rw [← hw1] at g0 gw g1 hb1 ⊢
        obtain ⟨rb, hrb⟩ : ∃ rb, rb = W.heap.size + 1 + 1 := ⟨_, rfl⟩
        rw [← hrb] at g1 ⊢
        have hs1 : w1.heap.size = W.heap.size + 1 + 1 + 1 := by rw [hw1]; simp
        have LB := Aside0.mk (show W.heap.size ≤ rb ∧ rb < w1.heap.size from ⟨by omega, by omega⟩)
        have G1 := Aside0.mk g1
        have HB1 := Aside0.mk hb1
        clear hw1 g0 gw g1 hb1 hrb hs1
        refine (HC.out w1 HB1.out).mono ?_
        rintro e w2 ⟨v4, rfl, hR2, hb⟩
        obtain ⟨E0, E1, E2, E3, E6, d0_, d1_, d2_, d3_, d6_, gl, gu, gs, hRC⟩ := hR2.open_
        obtain rfl := hRC.hv
        obtain ⟨m0, hm0⟩ : ∃ m, m = S2.stable.length := ⟨_, rfl⟩
        obtain ⟨m1, hm1⟩ : ∃ m, m = S2.old.length := ⟨_, rfl⟩
        obtain ⟨m2, hm2⟩ : ∃ m, m = S2.pend.length := ⟨_, rfl⟩
        obtain ⟨m3, hm3⟩ : ∃ m, m = gl.length := ⟨_, rfl⟩
        obtain ⟨m6, hm6⟩ : ∃ m, m = gs.length := ⟨_, rfl⟩
        obtain ⟨ma, hma⟩ : ∃ m, m = S2.failed := ⟨_, rfl⟩
        rw [← hm0, ← hm1, ← hm2, ← hm3, ← hm6, ← hma]
        rw [← hm0, ← hm1, ← hm2, ← hm3, ← hm6, ← hma] at hR2
        have g1 := blk_below G1.out hb
        obtain ⟨r0, r1, r2, r3, r4, r5, r6⟩ := cells7 g1
        obtain ⟨s0, s1, s2, s3, s4, s5, s6⟩ := froz7 g1
        have HR2 := Aside0.mk hR2
        have G2 := Aside0.mk g1
        have HB2 := Aside0.mk (HB1.out.trans (hb.mono HB1.out.size))
        clear hRC hm0 hm1 hm2 hm3 hm6 hma hR2 g1 hb HC
        go_wp2_with fail
        have hbC := set7_below HB2.out LB.out.1 (.slice E0 m0 d0_) (.slice E1 m1 d1_) (.slice E2 m2 d2_) (.slice E3 m3 d3_) (.bool ma) (.int .i64 gu) (.slice E6 m6 d6_)
        refine bodyPost_ret (results_ct rfl _ _ rb 31 #[.slice E0 m0 d0_, .slice E1 m1 d1_, .slice E2 m2 d2_, .slice E3 m3 d3_, .bool ma, .int .i64 gu, .slice E6 m6 d6_] (0, 0) _ rfl (set7_blk G2.out (.slice E0 m0 d0_) (.slice E1 m1 d1_) (.slice E2 m2 d2_) (.slice E3 m3 d3_) (.bool ma) (.int .i64 gu) (.slice E6 m6 d6_)) Try.underlying31 rfl (by kernel_rfl)) rfl ?_
        refine ⟨_, rfl, ?_, hbC⟩
        exact (HR2.out.step (fun k hk _ => set7_far w2 rb (.slice E0 m0 d0_) (.slice E1 m1 d1_) (.slice E2 m2 d2_) (.slice E3 m3 d3_) (.bool ma) (.int .i64 gu) (.slice E6 m6 d6_) k (fun e => by have l1 := LB.out.1; have l2 := LB.out.2; rcases hk with hk | hk <;> omega))).mono (fun k hk _ => hk.elim (fun z => Or.inl z.1) (fun z => Or.inr (by have := HB1.out.size; omega)))
end
end Go.Proofs.Ytflajmgichdhhaa.PG
namespace Go.Proofs.Ytflajmgichdhhaa.PG
open Go.RowKit Go.Proofs.YtflajmgichdhhaaW.PrintWords Go.Proofs.YtflajmgichdhhaaW.PrintLast Go.Proofs.YtflajmgichdhhaaW.PrintMore
set_option linter.unusedVariables false
set_option linter.unusedSimpArgs false
open Go.ChangeMaps (setBlock)
attribute [local go_sem] max2_int min2_int max_two min_two
def Rng (w : World) (b r : Nat) (m : Ents) (lf : Int → Bool) (n : Nat) : Prop :=
  ∃ es clock since seen c0, w.heap[b]? = some (.map es clock) ∧ es.toList.map entry = m.map (fun x => (encP x.1, encC x.2)) ∧ (keys m).Nodup ∧ MapKept.Stamped es clock ∧ w.heap[r]? = some (.mapIter (some b) since seen c0) ∧
    (∀ x ∈ es.toList, x.born < since) ∧ since ≤ c0 ∧ since ≤ clock ∧ (leftOf es seen).size = n ∧ ∀ x ∈ es.toList, ∀ a, x.key = encP a → lf a = !seen.contains x.born
theorem Rng.move {w w' : World} {b r : Nat} {m : Ents} {lf : Int → Bool} {n : Nat} (h : Rng w b r m lf n) (hb : w'.heap[b]? = w.heap[b]?) (hr : w'.heap[r]? = w.heap[r]?) : Rng w' b r m lf n := by
 obtain ⟨es, clock, since, seen, c0, h1, h2, h3, h4, h5, h6⟩ := h
 exact ⟨es, clock, since, seen, c0, hb.trans h1, h2, h3, h4, hr.trans h5, h6⟩
theorem MapIs.range {w : World} {b : Nat} {m : Ents} (h : MapIs w b m) :
  ∃ o, (Instr.range 77 (.map (some b))).run Try.prog w = .ok (.pointer (some ⟨w.heap.size, 0, none⟩)) (w.alloc o) ∧ Rng (w.alloc o) b w.heap.size m (fun _ => true) m.length := by
 have hlt := h.lt
 obtain ⟨es, clock, hb, hes, hn, hst⟩ := h
 have hlen : es.toList.length = m.length := by have := congrArg List.length hes; simpa using this
 refine ⟨_, run_range_map w 77 3 3 b es clock Try.underlying77 hb, es, clock, clock, #[], clock, ((MapKept.heap_alloc w _).2 b hlt).trans hb, hes, hn, hst, (MapKept.heap_alloc w _).1, ((MapKept.stamped_iff es clock).1 hst).1, Nat.le_refl _, Nat.le_refl _, ?_, ?_⟩
 ·have hz : leftOf es #[] = es := Array.filter_eq_self.2 (fun _ _ => by simp)
  rw [hz]
  simpa using hlen
 ·intro x _ a _
  simp
end Go.Proofs.Ytflajmgichdhhaa.PG
namespace Go.Proofs.Ytflajmgichdhhaa.PG
open Go.RowKit Go.Proofs.YtflajmgichdhhaaW.PrintWords Go.Proofs.YtflajmgichdhhaaW.PrintLast Go.Proofs.YtflajmgichdhhaaW.PrintMore
set_option linter.unusedVariables false
set_option linter.unusedSimpArgs false
attribute [local go_sem] max2_int min2_int max_two min_two
structure Calm (S : DevS) : Prop where
  failed : S.failed = false
  fences : ∀ a, S.fences a = none
  fset : S.fset = false
theorem Calm.admit {S : DevS} (h : Calm S) (sys ep : Int) : admitS S sys ep = (0, S) := by
 unfold admitS fencedS
 rw [h.failed, if_neg (by simp), h.fences sys, if_neg (by simp), h.fset, if_pos rfl]
theorem Calm.write {S : DevS} (h : Calm S) (sys ep sec : Int) (d : ByteArray) (hp : plainB sys ep = true) (hd : d.size = 140) (h0 : 0 ≤ sec) (h1 : sec < (S.stable.length : Int)) : writeS S sys ep sec d = (0, pushS S ⟨sys, sec, d⟩) := by
 unfold writeS
 rw [if_pos ⟨hp, hd⟩, if_pos ⟨h0, h1⟩, h.admit, if_pos rfl]
theorem Calm.sync {S : DevS} (h : Calm S) (sys ep : Int) (hp : plainB sys ep = true) : syncS S sys ep = (0, finishS (isOf sys) (List.replicate S.pend.length 140) S) := by
 unfold syncS
 rw [if_pos hp, h.admit, if_pos rfl]
theorem Calm.push {S : DevS} (h : Calm S) (w : S99) : Calm (pushS S w) := ⟨h.failed, h.fences, h.fset⟩
theorem Calm.finish {S : DevS} (h : Calm S) (p : S99 → Bool) (l : List Int) : Calm (finishS p l S) := by
 have hs := endF_same p l S.pend (0, S)
 exact ⟨hs.failed.trans h.failed, fun a => by show (endF p l S.pend (0, S)).2.fences a = none; rw [hs.fences]; exact h.fences a, hs.fset.trans h.fset⟩
def cOld : ByteArray := fullS ⟨#[111, 108, 100]⟩
def cTwo : ByteArray := fullS ⟨#[116, 119, 111]⟩
def cA (j : Nat) : DevS := { newS 6 with pend := (List.range j).map fun (i : Nat) => ⟨2, (i : Int), cOld⟩ }
def cB : DevS := ⟨List.replicate 6 cOld, List.replicate 6 [zeros140], [], fun _ => none, false, 0, [], false⟩
def cC : DevS := { cB with pend := [⟨2, 5, cTwo⟩] }
def pendD (l : List ByteArray) (k : Nat) : List S99 := (List.range (min k 5)).map fun (i : Nat) => ⟨1, (i : Int), fullS (l.getD i ⟨#[]⟩)⟩
def cD (l : List ByteArray) (k : Nat) : DevS := { cB with pend := ⟨2, 5, cTwo⟩ :: pendD l k }
def cE (l : List ByteArray) (sv : List Int) : DevS := finishS (isOf 1) sv (cD l l.length)
def wantS (l : List ByteArray) (sv : List Int) (i : Nat) : ByteArray := if i < min l.length 5 then cut (fullS (l.getD i ⟨#[]⟩)) cOld (bytesAt sv i) else cOld
end Go.Proofs.Ytflajmgichdhhaa.PG
namespace Go.Proofs.Ytflajmgichdhhaa.PG
open Go.RowKit Go.Proofs.YtflajmgichdhhaaW.PrintWords Go.Proofs.YtflajmgichdhhaaW.PrintLast Go.Proofs.YtflajmgichdhhaaW.PrintMore
set_option linter.unusedVariables false
set_option linter.unusedSimpArgs false
theorem w64 (n : Int) (h0 : -9223372036854775808 ≤ n) (h1 : n ≤ 9223372036854775807) : wrap64 n = n := by unfold wrap64; omega
theorem rdT37_at (xs : List S37) (i : Nat) (h : i < xs.length) : rd_T37 xs (i : Int) = xs[i] := by
 unfold rd_T37
 rw [Int.toNat_natCast, List.getD_eq_getElem?_getD, List.getElem?_eq_getElem h]
 rfl
def FewOk (l : List S37) (m : Nat) : Prop := l.length ≤ m ∧ ∀ o ∈ l, o.f6.length ≤ 100
theorem few_at (l : List S37) (m : Nat) (hl : l.length ≤ maxLen) : ∀ (n i : Nat), i ≤ l.length → l.length - i ≤ n → (∀ o ∈ l.take i, o.f6.length ≤ 100) → ∃ k r, dasdref03_Few.l0 k l m (i : Int) = some r ∧ (r = true → FewOk l m)
 | 0, i, hi, hn, ha => ⟨1, _, by unfold dasdref03_Few.l0; rw [if_neg (by omega)], fun h => ⟨by have := of_decide_eq_true h; omega, fun o ho => ha o (by rw [List.take_of_length_le (by omega)]; exact ho)⟩⟩
 | n + 1, i, hi, hn, ha => by
  by_cases h : i < l.length
  ·have hw : wrap64 ((i : Int) + 1) = ((i + 1 : Nat) : Int) := by
    have : l.length ≤ 9223372036854775807 := hl
    rw [w64 _ (by omega) (by omega)]; omega
   by_cases hs : (((rd_T37 l i).f3).size : Int) > 300
   ·exact ⟨1, false, by unfold dasdref03_Few.l0; rw [if_pos (by omega), if_pos (by omega), if_pos hs], fun h => by cases h⟩
   ·by_cases hs2 : (((rd_T37 l i).f6).length : Int) > 100
    ·exact ⟨1, false, by unfold dasdref03_Few.l0; rw [if_pos (by omega), if_pos (by omega), if_neg hs, if_pos hs2], fun h => by cases h⟩
    ·obtain ⟨k, r, h1, h2⟩ := few_at l m hl n (i + 1) (by omega) (by omega) (fun o ho => by
      rw [List.take_succ_eq_append_getElem h] at ho
      rcases List.mem_append.1 ho with ho | ho
      ·exact ha o ho
      ·rw [List.mem_singleton.1 ho, ← rdT37_at l i h]; omega)
     exact ⟨k + 1, r, by unfold dasdref03_Few.l0; rw [if_pos (by omega), if_pos (by omega), if_neg hs, if_neg hs2, hw]; exact h1, h2⟩
  ·exact ⟨1, _, by unfold dasdref03_Few.l0; rw [if_neg (by omega)], fun z => ⟨by have := of_decide_eq_true z; omega, fun o ho => ha o (by rw [List.take_of_length_le (by omega)]; exact ho)⟩⟩
def FewPost (l : List S37) (m : Nat) (W : World) (e : Ending) (W' : World) : Prop := ∃ r, e = .returned (.bool r) ∧ (r = true → FewOk l m) ∧ Below W.heap.size W W'
theorem few_calls (W : World) (a : Option Addr) (c : Nat) (l : List S37) (m : Nat) (hr : Kd.C k37 W a l.length l) (hc : l.length ≤ c) (hl : c ≤ maxLen) :
  Calls Try.prog 11 #[.slice a l.length c, .int .i64 m] W fun e W' => FewPost l m W e W' := by
 obtain ⟨k, r, h1, h2⟩ := few_at l m (Nat.le_trans hc hl) l.length 0 (Nat.zero_le _) (by omega) (fun o ho => by cases ho)
 refine (dasdref03_Few.calls k a c l m r W hr hc h1).mono ?_
 rintro e W' ⟨rfl, hd⟩
 exact ⟨r, rfl, h2, hd.below⟩
theorem Inv.do {W0 W1 : World} {L : Lay} {K : List (Nat × Obj)} {S : DevS} {k : Nat} (h : Inv W0 L K S W1) (hg : Good k S) (hk : k ≤ 1000000) (o : S37) (hw : Opens.OpWf o) (A : Option Addr) (c : Nat) (hC : Kd.C (Kd.int .i64) W0 A o.f6.length o.f6) (hlc : o.f6.length ≤ c) (hlm : o.f6.length ≤ 1000000) :
  Calls Try.prog 14 #[.pointer (some ⟨L.g, 0, none⟩), .agg (opCells o A c)] W1 fun e W' => e = .returned (.int .i64 (doS o S).1) ∧ Inv W0 L K (doS o S).2 W' :=
 h.post (fun F hI => do_calls hI hg hk o hw A c (Kd.F_mono (Kd.F_below (Kd.C_F (Kd.heap_int _) hC) h.bel) (fun k hk z => by have := (hI.range _ z).1; omega)) hlc hlm)
end Go.Proofs.Ytflajmgichdhhaa.PG
namespace Go.Proofs.Ytflajmgichdhhaa.PG
open Go.RowKit Go.Proofs.YtflajmgichdhhaaW.PrintWords Go.Proofs.YtflajmgichdhhaaW.PrintLast Go.Proofs.YtflajmgichdhhaaW.PrintMore
set_option linter.unusedVariables false
set_option linter.unusedSimpArgs false
def ClonePost (S : DevS) (W : World) (e : Ending) (W' : World) : Prop := ∃ L' : Lay, e = .returned (.pointer (some ⟨L'.g, 0, none⟩)) ∧ DevIs W' W.heap.size L' (fun k => W.heap.size ≤ k ∧ k < W'.heap.size) S ∧ Below W.heap.size W W'
end Go.Proofs.Ytflajmgichdhhaa.PG
namespace Go.Proofs.Ytflajmgichdhhaa.PG
open Go.RowKit Go.Proofs.YtflajmgichdhhaaW.PrintWords Go.Proofs.YtflajmgichdhhaaW.PrintLast Go.Proofs.YtflajmgichdhhaaW.PrintMore
set_option linter.unusedVariables false
set_option linter.unusedSimpArgs false
def Two (W0 : World) (L : Lay) (K : List (Nat × Obj)) (S : DevS) (L2 : Lay) (S2 : DevS) (W1 : World) : Prop :=
  ∃ F F2, DevIs W1 W0.heap.size L F S ∧ DevIs W1 W0.heap.size L2 F2 S2 ∧ (∀ k, F k → ¬ F2 k) ∧ (∀ p ∈ K, W1.heap[p.1]? = some p.2 ∧ ¬ F p.1 ∧ ¬ F2 p.1) ∧ Below W0.heap.size W0 W1
section
variable {W0 W1 W2 : World} {L L2 : Lay} {K : List (Nat × Obj)} {S S' S2 : DevS} {k : Nat}
theorem Two.bel (h : Two W0 L K S L2 S2 W1) : Below W0.heap.size W0 W1 := by obtain ⟨_, _, _, _, _, _, h⟩ := h; exact h
theorem Two.blk (h : Two W0 L K S L2 S2 W1) {b : Nat} {o : Obj} (hp : (b, o) ∈ K) : W1.heap[b]? = some o := by
 obtain ⟨F, F2, _, _, _, h4, _⟩ := h
 exact (h4 _ hp).1
theorem Two.hold (h : Two W0 L K S L2 S2 W1) (hb : Below W1.heap.size W1 W2) (K' : List (Nat × Obj)) (hK : ∀ p ∈ K', W1.heap.size ≤ p.1 ∧ W2.heap[p.1]? = some p.2) : Two W0 L (K' ++ K) S L2 S2 W2 := by
 obtain ⟨F, F2, h1, h2, h3, h4, h5⟩ := h
 refine ⟨F, F2, h1.below hb, h2.below hb, h3, fun p hp => ?_, h5.trans (hb.mono h5.size)⟩
 rcases List.mem_append.1 hp with hp | hp
 ·obtain ⟨a, b⟩ := hK p hp
  exact ⟨b, fun z => by have := (h1.range _ z).2; omega, fun z => by have := (h2.range _ z).2; omega⟩
 ·exact ⟨blk_below (h4 p hp).1 hb, (h4 p hp).2⟩
theorem Two.below (h : Two W0 L K S L2 S2 W1) (hb : Below W1.heap.size W1 W2) : Two W0 L K S L2 S2 W2 := h.hold hb [] (fun p hp => by cases hp)
theorem Two.only (h : Two W0 L K S L2 S2 W1) (K' : List (Nat × Obj)) (hK : ∀ p ∈ K', p ∈ K) : Two W0 L K' S L2 S2 W1 := by
 obtain ⟨F, F2, h1, h2, h3, h4, h5⟩ := h
 exact ⟨F, F2, h1, h2, h3, fun p hp => h4 p (hK p hp), h5⟩
theorem Two.post {P : Program} {f : FuncId} {args : Array Value} {E : Ending} (h : Two W0 L K S L2 S2 W1) (hc : ∀ F, DevIs W1 W0.heap.size L F S → Calls P f args W1 fun e W' => e = E ∧ DevPost W0.heap.size L F S' W1 W') :
  Calls P f args W1 fun e W' => e = E ∧ Two W0 L K S' L2 S2 W' := by
 obtain ⟨F, F2, h1, h2, h3, h4, h5⟩ := h
 refine (hc F h1).mono ?_
 rintro e W' ⟨he, F', d1, d2, d3, d4⟩
 refine ⟨he, F', F2, d1, h2.kept d3 (fun k z y => h3 k y z), fun k z y => ?_, fun p hp => ?_, h5.trans d4⟩
 ·rcases d2 k z with w | w
  ·exact h3 k w y
  ·have := (h2.range _ y).2; omega
 ·obtain ⟨a, b, c⟩ := h4 p hp
  have hlt := blk_lt a
  exact ⟨(d3.2 p.1 hlt b).trans a, fun z => (d2 _ z).elim b (fun y => by omega), c⟩
theorem Two.write (h : Two W0 L K S L2 S2 W1) (hf : Fine k S) (hk : k ≤ 1000000) (hsl : S.surv.length ≤ 4611686018427387904) (sys ep sec : Int) (d : ByteArray) {r : Int} (hr : writeS S sys ep sec d = (r, S')) :
  Calls Try.prog 20 #[.pointer (some ⟨L.g, 0, none⟩), .agg #[.int .i64 sys, .int .i64 ep], .int .i64 sec, .string d] W1 fun e W' => e = .returned (.int .i64 r) ∧ Two W0 L K S' L2 S2 W' :=
 h.post (fun F hI => by have := write_calls hI hf hk hsl sys ep sec d; rw [hr] at this; exact this)
theorem Two.sync (h : Two W0 L K S L2 S2 W1) (hf : Fine k S) (hk : k ≤ 1000000) (hsl : S.surv.length ≤ 4611686018427387904) (sys ep : Int) {r : Int} (hr : syncS S sys ep = (r, S')) :
  Calls Try.prog 21 #[.pointer (some ⟨L.g, 0, none⟩), .agg #[.int .i64 sys, .int .i64 ep]] W1 fun e W' => e = .returned (.int .i64 r) ∧ Two W0 L K S' L2 S2 W' :=
 h.post (fun F hI => by have := sync_calls hI hf hk hsl sys ep; rw [hr] at this; exact this)
theorem Two.pend (h : Two W0 L K S L2 S2 W1) (hpl : S.pend.length ≤ 1000000) (i : Int) {n : Nat} (hn : pendN S i = n) :
  Calls Try.prog 24 #[.pointer (some ⟨L.g, 0, none⟩), .int .i64 i] W1 fun e W' => e = .returned (.int .i64 (n : Int)) ∧ Two W0 L K S L2 S2 W' := by
 obtain ⟨F, F2, h1, _⟩ := id h
 refine (pendI h1 hpl i).mono ?_
 rintro e W' ⟨he, hb⟩
 exact ⟨by rw [← hn]; exact he, h.below hb⟩
end
end Go.Proofs.Ytflajmgichdhhaa.PG
namespace Go.Proofs.Ytflajmgichdhhaa.PG
open Go.RowKit Go.Proofs.YtflajmgichdhhaaW.PrintWords Go.Proofs.YtflajmgichdhhaaW.PrintLast Go.Proofs.YtflajmgichdhhaaW.PrintMore
set_option linter.unusedVariables false
set_option linter.unusedSimpArgs false
attribute [local go_sem] max2_int min2_int max_two min_two
def retS (x : ByteArray) (r : List ByteArray) : DevS := ⟨[x], [r.take 8], [], fun _ => none, false, 0, [], false⟩
end Go.Proofs.Ytflajmgichdhhaa.PG
namespace Go.Proofs.Ytflajmgichdhhaa.PG
open Go.RowKit Go.Proofs.YtflajmgichdhhaaW.PrintWords Go.Proofs.YtflajmgichdhhaaW.PrintLast Go.Proofs.YtflajmgichdhhaaW.PrintMore
set_option linter.unusedVariables false
set_option linter.unusedSimpArgs false
theorem op_at {W wr : World} {A : Option Addr} {l : List S37} (hC : Kd.C k37 W A l.length l) (hb : Below W.heap.size W wr) (j : Nat) (hj : j < l.length) :
  ∃ ad A7 c7, A = some ad ∧ wr.cell? (ad.add (j * 8)) = some (.int .u8 l[j].f0) ∧ wr.cell? ⟨(ad.add (j * 8)).block, (ad.add (j * 8)).off + 1, none⟩ = some (.int .i64 l[j].f1.f0) ∧ wr.cell? ⟨(ad.add (j * 8)).block, (ad.add (j * 8)).off + 2, none⟩ = some (.int .i64 l[j].f1.f1) ∧
   wr.cell? ⟨(ad.add (j * 8)).block, (ad.add (j * 8)).off + 3, none⟩ = some (.int .i64 l[j].f2) ∧ wr.cell? ⟨(ad.add (j * 8)).block, (ad.add (j * 8)).off + 4, none⟩ = some (.string l[j].f3) ∧ wr.cell? ⟨(ad.add (j * 8)).block, (ad.add (j * 8)).off + 5, none⟩ = some (.int .i64 l[j].f4) ∧
   wr.cell? ⟨(ad.add (j * 8)).block, (ad.add (j * 8)).off + 6, none⟩ = some (.int .u8 l[j].f5) ∧ wr.cell? ⟨(ad.add (j * 8)).block, (ad.add (j * 8)).off + 7, none⟩ = some (.slice A7 l[j].f6.length c7) ∧ l[j].f6.length ≤ c7 ∧ Kd.C (Kd.int .i64) W A7 l[j].f6.length l[j].f6 := by
 obtain ⟨ad, A7, c7, e, h0, h1, h2, h3, h4, h5, h6, h7, h8, h9⟩ := at_T37 hC (j : Int) (by omega) (by omega)
 rw [rdT37_at l j hj, Int.toNat_natCast] at h0 h1 h2 h3 h4 h5 h6 h7
 rw [rdT37_at l j hj] at h8 h9
 have mv : ∀ {a : Addr} {v : Value}, W.cell? a = some v → wr.cell? a = some v := fun h => (hb.cell (World.block_lt_of_cell? W _ h)).trans h
 exact ⟨ad, A7, c7, e, mv h0, mv h1, mv h2, mv h3, mv h4, mv h5, mv h6, mv h7, h8, h9⟩
end Go.Proofs.Ytflajmgichdhhaa.PG
namespace Go.Proofs.Ytflajmgichdhhaa.PG
open Go.RowKit Go.Proofs.YtflajmgichdhhaaW.PrintWords Go.Proofs.YtflajmgichdhhaaW.PrintLast Go.Proofs.YtflajmgichdhhaaW.PrintMore
set_option linter.unusedVariables false
set_option linter.unusedSimpArgs false
def RefsIn (W1 : World) (F : Nat → Prop) (B : Nat) (Bs : List (Nat × Array Value × DevS)) (Vs : List (Value × DevS)) : Prop :=
  (∀ p ∈ Bs, W1.heap[p.1]? = some (.cells p.2.1 31 (0, 0)) ∧ ¬ F p.1 ∧ B ≤ p.1 ∧ RefIs W1 (fun k => ¬ F k ∧ ∀ q ∈ Bs, k ≠ q.1) (.agg p.2.1) p.2.2) ∧
  (∀ p ∈ Vs, RefIs W1 (fun k => ¬ F k ∧ ∀ q ∈ Bs, k ≠ q.1) p.1 p.2)
section
variable {W0 W1 W2 : World} {F F' : Nat → Prop} {B : Nat} {Bs : List (Nat × Array Value × DevS)} {Vs : List (Value × DevS)} {S S' : DevS} {k : Nat}
theorem RefsIn.blk (h : RefsIn W1 F B Bs Vs) {b : Nat} {cs : Array Value} (hp : (b, cs, S) ∈ Bs) : W1.heap[b]? = some (.cells cs 31 (0, 0)) := (h.1 _ hp).1
theorem RefsIn.below (h : RefsIn W1 F B Bs Vs) (hb : Below W1.heap.size W1 W2) : RefsIn W2 F B Bs Vs :=
 ⟨fun p hp => ⟨blk_below (h.1 p hp).1 hb, (h.1 p hp).2.1, (h.1 p hp).2.2.1, (h.1 p hp).2.2.2.below hb⟩, fun p hp => (h.2 p hp).below hb⟩
theorem RefsIn.kept (h : RefsIn W1 F B Bs Vs) (hk : Kept W1 W2 F) (hF : ∀ k, F' k → F k ∨ W1.heap.size ≤ k) : RefsIn W2 F' B Bs Vs := by
 have mv : ∀ {v : Value} {S : DevS}, RefIs W1 (fun k => ¬ F k ∧ ∀ q ∈ Bs, k ≠ q.1) v S → RefIs W2 (fun k => ¬ F' k ∧ ∀ q ∈ Bs, k ≠ q.1) v S := fun h4 =>
  ((h4.mono (ok' := fun k => (¬ F k ∧ ∀ q ∈ Bs, k ≠ q.1) ∧ k < W1.heap.size) (fun k a b => ⟨a, b⟩)).step (fun k a hlt => hk.2 k hlt a.1.1)).mono (fun k a _ => ⟨fun z => (hF k z).elim a.1.1 (fun y => by have := a.2; omega), a.1.2⟩)
 refine ⟨fun p hp => ?_, fun p hp => mv (h.2 p hp)⟩
 obtain ⟨h1, h2, h3, h4⟩ := h.1 p hp
 have hlt := blk_lt h1
 exact ⟨(hk.2 p.1 hlt h2).trans h1, fun z => (hF _ z).elim h2 (fun y => by omega), h3, mv h4⟩
theorem RefsIn.only (h : RefsIn W1 F B Bs Vs) (Bs' : List (Nat × Array Value × DevS)) (hB : ∀ p ∈ Bs', p ∈ Bs) (Vs' : List (Value × DevS)) (hV : ∀ p ∈ Vs', p ∈ Vs) : RefsIn W1 F B Bs' Vs' :=
 ⟨fun p hp => by
  obtain ⟨h1, h2, h3, h4⟩ := h.1 p (hB p hp)
  exact ⟨h1, h2, h3, h4.mono (fun k a _ => ⟨a.1, fun q hq => a.2 q (hB q hq)⟩)⟩, fun p hp => (h.2 p (hV p hp)).mono (fun k a _ => ⟨a.1, fun q hq => a.2 q (hB q hq)⟩)⟩
theorem RefsIn.box (h : RefsIn W1 F B Bs Vs) (hr : ∀ k, F k → k < W1.heap.size) (hB : B ≤ W1.heap.size) {cs : Array Value} (hR : RefIs W1 (fun k => ¬ F k ∧ ∀ q ∈ Bs, k ≠ q.1) (.agg cs) S) : RefsIn (W1.alloc (.cells cs 31)) F B ((W1.heap.size, cs, S) :: Bs) Vs := by
 have hb := below_alloc (Below.refl W1.heap.size W1) (.cells cs 31)
 have mv : ∀ {v : Value} {T : DevS}, RefIs W1 (fun k => ¬ F k ∧ ∀ q ∈ Bs, k ≠ q.1) v T → RefIs (W1.alloc (.cells cs 31)) (fun k => ¬ F k ∧ ∀ q ∈ (W1.heap.size, cs, S) :: Bs, k ≠ q.1) v T := fun h4 =>
  ((h4.mono (ok' := fun k => (¬ F k ∧ ∀ q ∈ Bs, k ≠ q.1) ∧ k < W1.heap.size) (fun k a b => ⟨a, b⟩)).below hb).mono (fun k a _ => ⟨a.1.1, fun q hq => by
   rcases List.mem_cons.1 hq with rfl | hq
   ·show k ≠ W1.heap.size
    have := a.2
    omega
   ·exact a.1.2 q hq⟩)
 refine ⟨fun p hp => ?_, fun p hp => mv (h.2 p hp)⟩
 rcases List.mem_cons.1 hp with rfl | hp
 ·exact ⟨blk_new _ _, fun z => by have := hr _ z; omega, hB, mv hR⟩
 ·obtain ⟨h1, h2, h3, h4⟩ := h.1 p hp
  exact ⟨blk_below h1 hb, h2, h3, mv h4⟩
theorem RefsIn.set (h : RefsIn W1 F B Bs Vs) {bx by_ : Nat} {cs cs' : Array Value} (hx : (bx, cs, S) ∈ Bs) (hy : (by_, cs', S') ∈ Bs) (hf : ∀ k, k ≠ bx → W2.heap[k]? = W1.heap[k]?) (hb : W2.heap[bx]? = some (.cells cs' 31 (0, 0)))
  (Bs' : List (Nat × Array Value × DevS)) (hB : ∀ p ∈ Bs', p ∈ Bs ∧ p.1 ≠ bx) : RefsIn W2 F B ((bx, cs', S') :: Bs') Vs := by
 have mv : ∀ {v : Value} {T : DevS}, RefIs W1 (fun k => ¬ F k ∧ ∀ q ∈ Bs, k ≠ q.1) v T → RefIs W2 (fun k => ¬ F k ∧ ∀ q ∈ (bx, cs', S') :: Bs', k ≠ q.1) v T := fun h4 =>
  (h4.step (fun k a _ => hf k (a.2 _ hx))).mono (fun k a _ => ⟨a.1, fun q hq => by
   rcases List.mem_cons.1 hq with rfl | hq
   ·show k ≠ bx
    exact a.2 (bx, cs, S) hx
   ·exact a.2 q (hB q hq).1⟩)
 refine ⟨fun p hp => ?_, fun p hp => mv (h.2 p hp)⟩
 rcases List.mem_cons.1 hp with rfl | hp
 ·exact ⟨hb, (h.1 _ hx).2.1, (h.1 _ hx).2.2.1, mv (h.1 _ hy).2.2.2⟩
 ·obtain ⟨h1, h2, h3, h4⟩ := h.1 p (hB p hp).1
  exact ⟨(hf p.1 (hB p hp).2).trans h1, h2, h3, mv h4⟩
theorem RefsIn.do (h : RefsIn W1 F B Bs Vs) (hr : ∀ k, F k → k < W1.heap.size) {bx : Nat} {cs : Array Value} (hx : (bx, cs, S) ∈ Bs) (hG : Good k S) (hk : k ≤ 1000000) (o : S37) (hw : Opens.OpWf o) (A : Option Addr) (c : Nat) (hC : Kd.C (Kd.int .i64) W1 A o.f6.length o.f6) (hlc : o.f6.length ≤ c) (hlm : o.f6.length ≤ 1000000) :
  Calls Try.prog 13 #[.agg cs, .agg (opCells o A c)] W1 fun e W2 => ∃ v', e = .returned (.tuple #[v', .int .i64 (doS o S).1]) ∧ Below W1.heap.size W1 W2 ∧ RefsIn W2 F B Bs ((v', (doS o S).2) :: Vs) := by
 refine (refdo_calls (h.1 _ hx).2.2.2 hG hk o hw A c hC hlc hlm).mono ?_
 rintro e W2 ⟨v', rfl, hR, hb⟩
 have hh := h.below hb
 refine ⟨v', rfl, hb, hh.1, fun p hp => ?_⟩
 rcases List.mem_cons.1 hp with rfl | hp
 ·exact hR.mono (fun k a _ => a.elim id (fun y => ⟨fun z => by have := hr k z; omega, fun q hq e => by have := blk_lt (h.1 q hq).1; omega⟩))
 ·exact hh.2 p hp
theorem RefsIn.seven (h : RefsIn W1 F B Bs Vs) {bx : Nat} {cs : Array Value} (hx : (bx, cs, S) ∈ Bs) : ∃ A0 A1 A2 A3 A6 n0 n1 n2 n3 n6 c0 c1 c2 c3 c6 fa fu, cs = #[.slice A0 n0 c0, .slice A1 n1 c1, .slice A2 n2 c2, .slice A3 n3 c3, .bool fa, .int .i64 fu, .slice A6 n6 c6] := by
 obtain ⟨A0, A1, A2, A3, A6, c0, c1, c2, c3, c6, fl, fu, sv, hC⟩ := (h.1 _ hx).2.2.2.open_
 have := hC.hv
 injection this with this
 exact ⟨_, _, _, _, _, _, _, _, _, _, _, _, _, _, _, _, _, this⟩
theorem RefsIn.val (h : RefsIn W1 F B Bs Vs) {v : Value} (hv : (v, S) ∈ Vs) : ∃ A0 A1 A2 A3 A6 n0 n1 n2 n3 n6 c0 c1 c2 c3 c6 fa fu, v = .agg #[.slice A0 n0 c0, .slice A1 n1 c1, .slice A2 n2 c2, .slice A3 n3 c3, .bool fa, .int .i64 fu, .slice A6 n6 c6] := by
 obtain ⟨A0, A1, A2, A3, A6, c0, c1, c2, c3, c6, fl, fu, sv, hC⟩ := (h.2 _ hv).open_
 exact ⟨_, _, _, _, _, _, _, _, _, _, _, _, _, _, _, _, _, hC.hv⟩
def OneR (W0 : World) (L : Lay) (S : DevS) (Bs : List (Nat × Array Value × DevS)) (Vs : List (Value × DevS)) (W1 : World) : Prop :=
  ∃ F, DevIs W1 W0.heap.size L F S ∧ RefsIn W1 F W0.heap.size Bs Vs ∧ Below W0.heap.size W0 W1
variable {L L2 : Lay} {S2 : DevS}
theorem OneR.bel (h : OneR W0 L S Bs Vs W1) : Below W0.heap.size W0 W1 := by obtain ⟨_, _, _, h⟩ := h; exact h
theorem OneR.blk (h : OneR W0 L S Bs Vs W1) {b : Nat} {cs : Array Value} (hp : (b, cs, S') ∈ Bs) : W1.heap[b]? = some (.cells cs 31 (0, 0)) := by obtain ⟨F, _, h, _⟩ := h; exact h.blk hp
theorem OneR.below (h : OneR W0 L S Bs Vs W1) (hb : Below W1.heap.size W1 W2) : OneR W0 L S Bs Vs W2 := by
 obtain ⟨F, h1, h2, h3⟩ := h
 exact ⟨F, h1.below hb, h2.below hb, h3.trans (hb.mono h3.size)⟩
theorem OneR.only (h : OneR W0 L S Bs Vs W1) (Bs' : List (Nat × Array Value × DevS)) (hB : ∀ p ∈ Bs', p ∈ Bs) (Vs' : List (Value × DevS)) (hV : ∀ p ∈ Vs', p ∈ Vs) : OneR W0 L S Bs' Vs' W1 := by
 obtain ⟨F, h1, h2, h3⟩ := h
 exact ⟨F, h1, h2.only Bs' hB Vs' hV, h3⟩
theorem OneR.box (h : OneR W0 L S Bs Vs W1) {cs : Array Value} (hv : (.agg cs, S') ∈ Vs) (Vs' : List (Value × DevS)) (hV : ∀ p ∈ Vs', p ∈ Vs) : OneR W0 L S ((W1.heap.size, cs, S') :: Bs) Vs' (W1.alloc (.cells cs 31)) := by
 obtain ⟨F, h1, h2, h3⟩ := h
 have hb := below_alloc (Below.refl W1.heap.size W1) (.cells cs 31)
 exact ⟨F, h1.below hb, (h2.box (fun k z => (h1.range k z).2) h3.size (h2.2 _ hv)).only _ (fun p hp => hp) Vs' hV, h3.trans (hb.mono h3.size)⟩
theorem OneR.set (h : OneR W0 L S Bs Vs W1) {bx by_ : Nat} {cs cs' : Array Value} {Sx Sy : DevS} (hx : (bx, cs, Sx) ∈ Bs) (hy : (by_, cs', Sy) ∈ Bs) (hf : ∀ k, k ≠ bx → W2.heap[k]? = W1.heap[k]?) (hb : W2.heap[bx]? = some (.cells cs' 31 (0, 0))) (hbl : Below W0.heap.size W1 W2)
  (Bs' : List (Nat × Array Value × DevS)) (hB : ∀ p ∈ Bs', p ∈ Bs ∧ p.1 ≠ bx) : OneR W0 L S ((bx, cs', Sy) :: Bs') Vs W2 := by
 obtain ⟨F, h1, h2, h3⟩ := h
 exact ⟨F, h1.move (fun k hk => hf k (fun e => (h2.1 _ hx).2.1 (e ▸ hk))) hbl.size, h2.set hx hy hf hb Bs' hB, h3.trans hbl⟩
theorem OneR.ge (h : OneR W0 L S Bs Vs W1) {bx : Nat} {cs : Array Value} (hx : (bx, cs, S') ∈ Bs) : W0.heap.size ≤ bx := by obtain ⟨F, _, h, _⟩ := h; exact (h.1 _ hx).2.2.1
theorem OneR.seven (h : OneR W0 L S Bs Vs W1) {bx : Nat} {cs : Array Value} (hx : (bx, cs, S') ∈ Bs) : ∃ A0 A1 A2 A3 A6 n0 n1 n2 n3 n6 c0 c1 c2 c3 c6 fa fu, cs = #[.slice A0 n0 c0, .slice A1 n1 c1, .slice A2 n2 c2, .slice A3 n3 c3, .bool fa, .int .i64 fu, .slice A6 n6 c6] := by
 obtain ⟨F, _, h, _⟩ := h; exact h.seven hx
theorem OneR.val (h : OneR W0 L S Bs Vs W1) {v : Value} (hv : (v, S') ∈ Vs) : ∃ A0 A1 A2 A3 A6 n0 n1 n2 n3 n6 c0 c1 c2 c3 c6 fa fu, v = .agg #[.slice A0 n0 c0, .slice A1 n1 c1, .slice A2 n2 c2, .slice A3 n3 c3, .bool fa, .int .i64 fu, .slice A6 n6 c6] := by
 obtain ⟨F, _, h, _⟩ := h; exact h.val hv
theorem OneR.start {F : Nat → Prop} {v : Value} (h : DevIs W1 W0.heap.size L F S) (hR : RefIs W1 (fun k => ¬ F k) v S) (hb : Below W0.heap.size W0 W1) : OneR W0 L S [] [(v, S)] W1 :=
 ⟨F, h, ⟨fun p hp => (by cases hp), fun p hp => by
  rcases List.mem_cons.1 hp with rfl | hp
  ·exact hR.mono (fun k a _ => ⟨a, fun q hq => by cases hq⟩)
  ·cases hp⟩, hb⟩
theorem OneR.rdo (h : OneR W0 L S Bs Vs W1) {bx : Nat} {cs : Array Value} (hx : (bx, cs, S') ∈ Bs) (hG : Good k S') (hk : k ≤ 1000000) (o : S37) (hw : Opens.OpWf o) (A : Option Addr) (c : Nat) (hC : Kd.C (Kd.int .i64) W0 A o.f6.length o.f6) (hlc : o.f6.length ≤ c) (hlm : o.f6.length ≤ 1000000) :
  Calls Try.prog 13 #[.agg cs, .agg (opCells o A c)] W1 fun e W2 => ∃ v', e = .returned (.tuple #[v', .int .i64 (doS o S').1]) ∧ Below W1.heap.size W1 W2 ∧ OneR W0 L S Bs ((v', (doS o S').2) :: Vs) W2 := by
 obtain ⟨F, h1, h2, h3⟩ := h
 refine (h2.do (fun k z => (h1.range k z).2) hx hG hk o hw A c (Kd.C_below hC h3) hlc hlm).mono ?_
 rintro e W2 ⟨v', rfl, hb, hR⟩
 exact ⟨v', rfl, hb, F, h1.below hb, hR, h3.trans (hb.mono h3.size)⟩
theorem OneR.ddo (h : OneR W0 L S Bs Vs W1) (hG : Good k S) (hk : k ≤ 1000000) (o : S37) (hw : Opens.OpWf o) (A : Option Addr) (c : Nat) (hC : Kd.C (Kd.int .i64) W0 A o.f6.length o.f6) (hlc : o.f6.length ≤ c) (hlm : o.f6.length ≤ 1000000) :
  Calls Try.prog 14 #[.pointer (some ⟨L.g, 0, none⟩), .agg (opCells o A c)] W1 fun e W2 => e = .returned (.int .i64 (doS o S).1) ∧ OneR W0 L (doS o S).2 Bs Vs W2 := by
 obtain ⟨F, h1, h2, h3⟩ := h
 refine (do_calls h1 hG hk o hw A c (Kd.F_mono (Kd.F_below (Kd.C_F (Kd.heap_int _) hC) h3) (fun k hk z => by have := (h1.range _ z).1; omega)) hlc hlm).mono ?_
 rintro e W2 ⟨rfl, F', d1, d2, d3, d4⟩
 exact ⟨rfl, F', d1, h2.kept d3 d2, h3.trans d4⟩
theorem OneR.same (h : OneR W0 L S Bs Vs W1) {bx : Nat} {cs : Array Value} (hx : (bx, cs, S) ∈ Bs) (hG : Good k S) (hk : k ≤ 1000000) :
  Calls Try.prog 15 #[.pointer (some ⟨L.g, 0, none⟩), .agg cs] W1 fun e W2 => e = .returned (.bool true) ∧ Below W1.heap.size W1 W2 := by
 obtain ⟨F, h1, h2, h3⟩ := h
 exact same_calls h1 (h2.1 _ hx).2.2.2 hG.fine hk
end
end Go.Proofs.Ytflajmgichdhhaa.PG
namespace Go.Proofs.Ytflajmgichdhhaa.PG
open Go.RowKit Go.Proofs.YtflajmgichdhhaaW.PrintWords Go.Proofs.YtflajmgichdhhaaW.PrintLast Go.Proofs.YtflajmgichdhhaaW.PrintMore
set_option linter.unusedVariables false
set_option linter.unusedSimpArgs false
theorem set7_low {B : Nat} {w : World} {b : Nat} (hb : B ≤ b) (a0 a1 a2 a3 a4 a5 a6 : Value) : Below B w (set7 w b a0 a1 a2 a3 a4 a5 a6) :=
 (((((((Below.refl B w).setCell (p := ⟨b, 0, none⟩) hb a0).setCell (p := ⟨b, 1, none⟩) hb a1).setCell (p := ⟨b, 2, none⟩) hb a2).setCell (p := ⟨b, 3, none⟩) hb a3).setCell (p := ⟨b, 4, none⟩) hb a4).setCell (p := ⟨b, 5, none⟩) hb a5).setCell (p := ⟨b, 6, none⟩) hb a6
set_option maxHeartbeats 4000000 in
set_option maxRecDepth 100000 in
theorem operations_calls (W : World) (sec : Int) (hs0 : 0 ≤ sec) (hs1 : sec < 256) (A : Option Addr) (c : Nat) (l : List S37) (hC : Kd.C k37 W A l.length l) (hc : l.length ≤ c) (hm : c ≤ maxLen) (hw : ∀ o ∈ l, Opens.OpWf o) :
  Calls Try.prog 3 #[.int .u8 sec, .slice A l.length c] W fun e W' => e = .returned (.bool true) ∧ Below W.heap.size W W' := by
 have HC := Aside0.mk hC
 have HWF := Aside0.mk hw
 have HFEW := Aside0.mk (fun (w : World) (h : Below W.heap.size W w) => few_calls w A c l 30 (Kd.C_below hC h) hc hm)
 clear hC hw hm
 go_enter Try.func3, Try.ntmps3
 go_wp2_with fail
 refine (awake_calls W).mono ?_
 rintro e W1 ⟨rfl, hb1⟩
 have HB1 := Aside0.mk hb1
 clear hb1
 go_wp2_with fail
 refine (HFEW.out W1 HB1.out).mono ?_
 rintro e W2 ⟨r, rfl, hr, hb2⟩
 have HB2 := Aside0.mk (HB1.out.trans (hb2.mono HB1.out.size))
 clear hb2 HFEW HB1
 cases r with
 | false =>
  clear hr
  go_wp2_with fail
  refine (awake_calls W2).mono ?_
  rintro e W3 ⟨rfl, hb3⟩
  have HB3 := Aside0.mk (HB2.out.trans (hb3.mono HB2.out.size))
  clear hb3
  go_wp2_with fail
  go_ret
  exact ⟨rfl, HB3.out⟩
 | true =>
  obtain ⟨hl30, hl100⟩ := hr rfl
  have HL100 := Aside0.mk hl100
  clear hr hl100
  obtain ⟨n, hn⟩ : ∃ n : Nat, 1 + sec % 6 = (n : Int) := ⟨(1 + sec % 6).toNat, by omega⟩
  have hn1 : 1 ≤ n := by omega
  have hn2 : n ≤ 6 := by omega
  go_wp2_with fail
  refine (begin_calls W2 sec hs0 hs1 n hn).mono ?_
  rintro e W3 ⟨L, F, v, rfl, hI, hR, hb3⟩
  have hO := OneR.start (W0 := W) (hI.lower HB2.out.size) hR (HB2.out.trans (hb3.mono HB2.out.size))
  obtain ⟨A0_b, A1_b, A2_b, A3_b, A6_b, n0_b, n1_b, n2_b, n3_b, n6_b, c0_b, c1_b, c2_b, c3_b, c6_b, fa_b, fu_b, rfl⟩ := hO.val (List.mem_singleton.2 rfl)
  have HO := Aside0.mk hO
  have HG0 := Aside0.mk (show Good 0 (newS n) from ⟨fine_new n hn1 (by omega), Nat.zero_le _⟩)
  clear hI hR hb3 HB2 hO hn hn1 hn2 hs0 hs1
  go_wp2_with fail
  have hO4 := HO.out.box (List.mem_singleton.2 rfl) [] (fun p hp => by cases hp)
  obtain ⟨bx, hbx⟩ : ∃ bx, bx = W3.heap.size := ⟨_, rfl⟩
  obtain ⟨W4, hW4⟩ : ∃ W4, W4 = W3.alloc (.cells #[.slice A0_b n0_b c0_b, .slice A1_b n1_b c1_b, .slice A2_b n2_b c2_b, .slice A3_b n3_b c3_b, .bool fa_b, .int .i64 fu_b, .slice A6_b n6_b c6_b] 31) := ⟨_, rfl⟩
  rw [← hW4, ← hbx] at hO4
  rw [← hW4, ← hbx]
  have HO4 := Aside0.mk hO4
  clear hO4 hW4 hbx HO
  go_loopg [9, 10, 11, 30] l.length (fun gg _ _ _ s30 wr => ∃ (j : Nat) (S : DevS) (cs : Array Value), s30 = .int .i64 j ∧ j ≤ l.length ∧ l.length - j ≤ gg ∧ Aside0 (OneR W L S [(bx, cs, S)] [] wr) ∧ Aside0 (Good j S))
  case atStart => exact ⟨0, newS n, _, by go_num, Nat.zero_le _, by omega, HO4, HG0⟩
  case round =>
   clear HO4 HG0
   obtain ⟨j, S, cs, rfl, hj, hgg, HI, HG⟩ := hrel
   by_cases hlt : j < l.length
   ·have hltz : (j : Int) < (l.length : Int) := by omega
    obtain ⟨A0, A1, A2, A3, A6, n0, n1, n2, n3, n6, c0, c1, c2, c3, c6, fa, fu, rfl⟩ := HI.out.seven (List.mem_singleton.2 rfl)
    obtain ⟨ad, A7, c7, e, h0, h1, h2, h3, h4, h5, h6, h7, h8, h9⟩ := op_at HC.out HI.out.bel j hlt
    have hwf := HWF.out _ (List.getElem_mem hlt)
    have hf100 := HL100.out _ (List.getElem_mem hlt)
    obtain ⟨o, ho⟩ : ∃ o, o = l[j] := ⟨_, rfl⟩
    rw [← ho] at h0 h1 h2 h3 h4 h5 h6 h7 h8 h9 hwf hf100
    subst e
    have HKK := Aside0.mk (show j ≤ 1000000 by omega)
    have HWO := Aside0.mk hwf
    have H9 := Aside0.mk h9
    have H8 := Aside0.mk h8
    have HFL := Aside0.mk (show o.f6.length ≤ 1000000 by omega)
    have HGN := Aside0.mk (HG.out.do o hwf (by omega))
    obtain ⟨bo, hbo⟩ : ∃ bo, bo = wr.heap.size := ⟨_, rfl⟩
    obtain ⟨w1, hw1⟩ : ∃ w1, w1 = wr.alloc (.cells #[.int .u8 o.f0, .int .i64 o.f1.f0, .int .i64 o.f1.f1, .int .i64 o.f2, .string o.f3, .int .i64 o.f4, .int .u8 o.f5, .slice A7 o.f6.length c7] 37) := ⟨_, rfl⟩
    have hb1 : Below wr.heap.size wr w1 := by rw [hw1]; exact below_alloc (Below.refl _ _) _
    have g9 : w1.heap[bo]? = some (.cells #[.int .u8 o.f0, .int .i64 o.f1.f0, .int .i64 o.f1.f1, .int .i64 o.f2, .string o.f3, .int .i64 o.f4, .int .u8 o.f5, .slice A7 o.f6.length c7] 37 (0, 0)) := by rw [hw1, hbo]; exact blk_new _ _
    have HI1 := Aside0.mk (HI.out.below hb1)
    have hgx := HI.out.blk (List.mem_singleton.2 rfl)
    have hlx := blk_lt hgx
    obtain ⟨k0, k1, k2, k3, k4, k5, k6⟩ := cells7 hgx
    have hrd := HI1.out.rdo (List.mem_singleton.2 rfl) HG.out HKK.out o HWO.out A7 c7 H9.out H8.out HFL.out
    unfold opCells at hrd
    rw [hw1] at hrd
    have HRD := Aside0.mk hrd
    have G9 := Aside0.mk g9
    have HW1 := Aside0.mk hw1
    have HBO := Aside0.mk hbo
    clear ho hwf hf100 h9 h8 hrd g9 hb1 hgx hw1 hbo
    go_wp2_with fail
    refine HRD.out.mono ?_
    rintro e w2 ⟨v', rfl, hb2, hi2⟩
    rw [← HW1.out] at hb2
    rw [← HBO.out]
    obtain ⟨E0, E1, E2, E3, E6, m0, m1, m2, m3, m6, d0, d1, d2, d3, d6, ma, gu, rfl⟩ := hi2.val (v := v') (S' := (doS o S).2) (List.mem_singleton.2 rfl)
    obtain ⟨r, hr⟩ : ∃ r, r = (doS o S).1 := ⟨_, rfl⟩
    obtain ⟨S', hS'⟩ : ∃ S', S' = (doS o S).2 := ⟨_, rfl⟩
    rw [← hr]
    rw [← hS'] at hi2 HGN
    have HR_ := Aside0.mk hr
    have HS_ := Aside0.mk hS'
    have g9 := blk_below G9.out hb2
    have hlo := blk_lt g9
    obtain ⟨q0, q1, q2, q3, q4, q5, q6, q7⟩ := cells8 g9
    obtain ⟨by_, hby⟩ : ∃ b, b = w2.heap.size := ⟨_, rfl⟩
    have hi3 := (hi2.box (cs := #[.slice E0 m0 d0, .slice E1 m1 d1, .slice E2 m2 d2, .slice E3 m3 d3, .bool ma, .int .i64 gu, .slice E6 m6 d6]) (S' := S') (List.mem_singleton.2 rfl) [] (fun p hp => by cases hp))
    have hdd := hi3.ddo HG.out HKK.out o HWO.out A7 c7 H9.out H8.out HFL.out
    unfold opCells at hdd
    rw [← HR_.out, ← HS_.out, ← hby] at hdd
    have HDD := Aside0.mk hdd
    have HBY := Aside0.mk hby
    have HNE := Aside0.mk (show by_ ≠ bx from fun e => by have := blk_lt (hi2.blk (List.mem_singleton.2 rfl)); omega)
    clear hr hS' hi2 hb2 g9 hi3 hdd hby HI HI1 HRD h0 h1 h2 h3 h4 h5 h6 h7 G9 k0 k1 k2 k3 k4 k5 k6 hlx
    go_wp2_with fail
    refine HDD.out.mono ?_
    rintro e w4 ⟨rfl, hi4⟩
    rw [← HBY.out]
    have gy := hi4.blk (List.mem_cons_self ..)
    obtain ⟨k0, k1, k2, k3, k4, k5, k6⟩ := cells7 gy
    have hrr : (r != r) = false := by simp
    have HI4 := Aside0.mk hi4
    have HSM := Aside0.mk (hi4.same (k := j + 1) (List.mem_cons_self ..) HGN.out (by have := HKK.out; omega))
    clear hi4 gy HDD q0 q1 q2 q3 q4 q5 q6 q7 hlo
    go_wp2_with fail
    refine HSM.out.mono ?_
    rintro e w5 ⟨rfl, hb5⟩
    have hi5 := HI4.out.below hb5
    have gy := hi5.blk (List.mem_cons_self ..)
    have gx := hi5.blk (List.mem_cons_of_mem _ (List.mem_singleton.2 rfl))
    clear k0 k1 k2 k3 k4 k5 k6
    obtain ⟨k0, k1, k2, k3, k4, k5, k6⟩ := cells7 gy
    obtain ⟨x0, x1, x2, x3, x4, x5, x6⟩ := cells7 gx
    obtain ⟨z0, z1, z2, z3, z4, z5, z6⟩ := froz7 gx
    have ne1 : by_ ≠ bx := HNE.out
    have ne2 : bx ≠ by_ := fun e => ne1 e.symm
    have hge := hi5.ge (List.mem_cons_of_mem _ (List.mem_singleton.2 rfl))
    have hi6 := hi5.set (W2 := set7 w5 bx (.slice E0 m0 d0) (.slice E1 m1 d1) (.slice E2 m2 d2) (.slice E3 m3 d3) (.bool ma) (.int .i64 gu) (.slice E6 m6 d6)) (List.mem_cons_of_mem _ (List.mem_singleton.2 rfl)) (List.mem_cons_self ..) (fun k hk => set7_far w5 bx (.slice E0 m0 d0) (.slice E1 m1 d1) (.slice E2 m2 d2) (.slice E3 m3 d3) (.bool ma) (.int .i64 gu) (.slice E6 m6 d6) k hk) (set7_blk gx (.slice E0 m0 d0) (.slice E1 m1 d1) (.slice E2 m2 d2) (.slice E3 m3 d3) (.bool ma) (.int .i64 gu) (.slice E6 m6 d6)) (set7_low hge (.slice E0 m0 d0) (.slice E1 m1 d1) (.slice E2 m2 d2) (.slice E3 m3 d3) (.bool ma) (.int .i64 gu) (.slice E6 m6 d6)) [] (fun p hp => by cases hp)
    unfold set7 at hi6
    have HI6 := Aside0.mk hi6
    clear hi6 hi5 gy gx hb5 hge HI4 HSM
    go_wp2_with fail
    go_roundg (l.length - (j + 1))
    case measure => omega
    case rel => exact ⟨j + 1, S', _, by go_num, by omega, Nat.le_refl _, HI6, HGN⟩
   ·obtain rfl : j = l.length := by omega
    go_wp2_with fail
    go_ret
    exact ⟨rfl, HI.out.bel⟩
end Go.Proofs.Ytflajmgichdhhaa.PG

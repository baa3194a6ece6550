/- begin: a device and the reference's value of the start. -/
import Derived.Test.YtflajmgichdhhaaRefNew
import Derived.BigQuiet


namespace Go.Proofs.Ytflajmgichdhhaa.PG
open Go.RowKit Go.Proofs.YtflajmgichdhhaaW.PrintWords Go.Proofs.YtflajmgichdhhaaW.PrintLast Go.Proofs.YtflajmgichdhhaaW.PrintMore

set_option linter.unusedVariables false
set_option linter.unusedSimpArgs false
/-! ### begin -/
theorem results_tct {P : Program} {fn : Func} {p u v : Tmp} {ty : TypeId} (h : fn.results = #[.tmp u, .cell p ty, .tmp v]) (tmps : Array Value) (w : World) (g : Nat) (t : TypeId) (cs : Array Value) (fr : Nat × Nat) (d : TypeDesc)
    (hp : tmps.getD p undef = .pointer (some ⟨g, 0, none⟩)) (hg : w.heap[g]? = some (.cells cs t fr))
    (hu : P.underlying ty = some d) (hd : (match d with | .struct _ | .array _ _ => true | _ => false) = true) (hi : (P.info? ty).map (·.size) = some cs.size) :
    (results fn tmps).run P w = .ok (.tuple #[tmps.getD u undef, .agg cs, tmps.getD v undef]) w := by
  have hp' : tmps[p]?.getD undef = .pointer (some ⟨g, 0, none⟩) := by simpa using hp
  simp [results, h, hp', asAddr, run_loadVar_row w g t ty cs fr d hg hu hd hi]
def BeginPost (n : Nat) (W : World) (e : Ending) (W' : World) : Prop := ∃ L F v, e = .returned (.tuple #[.pointer (some ⟨L.g, 0, none⟩), v, .bool true]) ∧ DevIs W' W.heap.size L F (newS n) ∧ RefIs W' (fun k => ¬ F k) v (newS n) ∧ Below W.heap.size W W'
set_option maxHeartbeats 2000000 in
set_option maxRecDepth 100000 in
theorem begin_calls (W : World) (c : Int) (h0 : 0 ≤ c) (h1 : c < 256) (n : Nat) (hn : 1 + c % 6 = (n : Int)) :
    Calls Try.prog 12 #[.int .u8 c] W fun e W' => BeginPost n W e W' := by
  have hn1 : 1 ≤ n := by omega
  have hn2 : n ≤ 1155 := by omega
  have HN := Aside0.mk (fun W => new_calls W n hn1 hn2)
  have HR := Aside0.mk (fun W => rnew_calls W n hn1 hn2)
  go_enter Try.func12, Try.ntmps12
  go_wp2_with fail
  obtain ⟨rb, hrb⟩ : ∃ rb, rb = W.heap.size := ⟨_, rfl⟩
  obtain ⟨W1, hW1⟩ : ∃ W1, W1 = W.alloc (.cells #[.slice none 0 0, .slice none 0 0, .slice none 0 0, .slice none 0 0, .bool false, .int .i64 0, .slice none 0 0] 31) := ⟨_, rfl⟩
  have hx1 : W1.heap[rb]? = some (.cells #[.slice none 0 0, .slice none 0 0, .slice none 0 0, .slice none 0 0, .bool false, .int .i64 0, .slice none 0 0] 31 (0, 0)) := by rw [hW1, hrb]; exact blk_new _ _
  have hb1 : Below W.heap.size W W1 := by rw [hW1]; exact below_alloc (Below.refl _ _) _
  have hlr : W.heap.size ≤ rb := by omega
  have hle1 : W.heap.size ≤ W1.heap.size := hb1.size
  rw [← hW1, ← hrb]
  have HX1 := Aside0.mk hx1
  have HB1 := Aside0.mk hb1
  clear hW1 hrb hx1 hb1
  refine (HN.out W1).mono ?_
  rintro e W2 ⟨L, F, rfl, hI2, hb2⟩
  have HI2 := Aside0.mk hI2
  have HX2 := Aside0.mk (blk_below HX1.out hb2)
  have HB2 := Aside0.mk (HB1.out.trans (hb2.mono HB1.out.size))
  have HNR := Aside0.mk (show ¬ F rb from fun z => by have := (hI2.range _ z).1; have := blk_lt HX1.out; omega)
  have hrb2 : rb < W2.heap.size := blk_lt HX2.out
  clear hI2 hb2 HB1 HX1
  go_wp2_with fail
  refine (HR.out W2).mono ?_
  rintro e W3 ⟨v, rfl, hR3, hb3⟩
  obtain ⟨v0, v1, v2, v3, v6, fl, fu, sv, hA3⟩ := hR3
  obtain rfl := hA3.hv
  have HA3 := Aside0.mk hA3
  have HI3 := Aside0.mk (HI2.out.below hb3)
  have HX3 := Aside0.mk (blk_below HX2.out hb3)
  have HB3 := Aside0.mk (HB2.out.trans (hb3.mono HB2.out.size))
  have HFN := Aside0.mk (show ∀ k, W2.heap.size ≤ k → ¬ F k from fun k hk z => by have := (HI2.out.range _ z).2; omega)
  obtain ⟨A0, c0, e0, _⟩ := hA3.h0
  obtain ⟨A1, c1, e1, _⟩ := hA3.h1
  obtain ⟨A2, c2, e2, _⟩ := hA3.h2
  obtain ⟨A3, c3, e3, _⟩ := hA3.h3
  obtain ⟨A6, c6, e6, _⟩ := hA3.h6
  subst e0 e1 e2 e3 e6
  clear hA3 hb3 HI2 HX2 HB2
  obtain ⟨fa, hfa⟩ : ∃ fa, fa = (newS n).failed := ⟨_, rfl⟩
  rw [← hfa]
  have HFA := Aside0.mk hfa
  clear hfa
  go_wp2_with fail
  obtain ⟨bb, hbb⟩ : ∃ bb, bb = W3.heap.size := ⟨_, rfl⟩
  obtain ⟨W4, hW4⟩ : ∃ W4, W4 = W3.alloc (.cells #[.slice A0 (newS n).stable.length c0, .slice A1 (newS n).old.length c1, .slice A2 (newS n).pend.length c2, .slice A3 fl.length c3, .bool fa, .int .i64 fu, .slice A6 sv.length c6] 31) := ⟨_, rfl⟩
  have hb4 : Below W3.heap.size W3 W4 := by rw [hW4]; exact below_alloc (Below.refl _ _) _
  have hx4 : W4.heap[bb]? = some (.cells #[.slice A0 (newS n).stable.length c0, .slice A1 (newS n).old.length c1, .slice A2 (newS n).pend.length c2, .slice A3 fl.length c3, .bool fa, .int .i64 fu, .slice A6 sv.length c6] 31 (0, 0)) := by rw [hW4, hbb]; exact blk_new _ _
  rw [← hW4, ← hbb]
  have hr4 := blk_below HX3.out hb4
  have k0 : W4.cell? ⟨bb, 0, none⟩ = some (.slice A0 (newS n).stable.length c0) := by rw [blk_cell hx4]; rfl
  have k1 : W4.cell? ⟨bb, 1, none⟩ = some (.slice A1 (newS n).old.length c1) := by rw [blk_cell hx4]; rfl
  have k2 : W4.cell? ⟨bb, 2, none⟩ = some (.slice A2 (newS n).pend.length c2) := by rw [blk_cell hx4]; rfl
  have k3 : W4.cell? ⟨bb, 3, none⟩ = some (.slice A3 fl.length c3) := by rw [blk_cell hx4]; rfl
  have k4 : W4.cell? ⟨bb, 4, none⟩ = some (.bool fa) := by rw [blk_cell hx4]; rfl
  have k5 : W4.cell? ⟨bb, 5, none⟩ = some (.int .i64 fu) := by rw [blk_cell hx4]; rfl
  have k6 : W4.cell? ⟨bb, 6, none⟩ = some (.slice A6 sv.length c6) := by rw [blk_cell hx4]; rfl
  have r0 : W4.cell? ⟨rb, 0, none⟩ = some (.slice none 0 0) := by rw [blk_cell hr4]; rfl
  have f0 := blk_frozen hr4 0
  have r1 : W4.cell? ⟨rb, 1, none⟩ = some (.slice none 0 0) := by rw [blk_cell hr4]; rfl
  have f1 := blk_frozen hr4 1
  have r2 : W4.cell? ⟨rb, 2, none⟩ = some (.slice none 0 0) := by rw [blk_cell hr4]; rfl
  have f2 := blk_frozen hr4 2
  have r3 : W4.cell? ⟨rb, 3, none⟩ = some (.slice none 0 0) := by rw [blk_cell hr4]; rfl
  have f3 := blk_frozen hr4 3
  have r4 : W4.cell? ⟨rb, 4, none⟩ = some (.bool false) := by rw [blk_cell hr4]; rfl
  have f4 := blk_frozen hr4 4
  have r5 : W4.cell? ⟨rb, 5, none⟩ = some (.int .i64 0) := by rw [blk_cell hr4]; rfl
  have f5 := blk_frozen hr4 5
  have r6 : W4.cell? ⟨rb, 6, none⟩ = some (.slice none 0 0) := by rw [blk_cell hr4]; rfl
  have f6 := blk_frozen hr4 6
  have ne1 : bb ≠ rb := by have := blk_lt HX3.out; omega
  have ne2 : rb ≠ bb := fun e => ne1 e.symm
  have HB4 := Aside0.mk hb4
  have HR4 := Aside0.mk hr4
  clear hW4 hbb hb4 hx4 hr4
  go_region
  go_wp2_with fail
  have hbk := set7_blk HR4.out (.slice A0 (newS n).stable.length c0) (.slice A1 (newS n).old.length c1) (.slice A2 (newS n).pend.length c2) (.slice A3 fl.length c3) (.bool fa) (.int .i64 fu) (.slice A6 sv.length c6)
  have hfar := set7_far W4 rb (.slice A0 (newS n).stable.length c0) (.slice A1 (newS n).old.length c1) (.slice A2 (newS n).pend.length c2) (.slice A3 fl.length c3) (.bool fa) (.int .i64 fu) (.slice A6 sv.length c6)
  have hsz := set7_size W4 rb (.slice A0 (newS n).stable.length c0) (.slice A1 (newS n).old.length c1) (.slice A2 (newS n).pend.length c2) (.slice A3 fl.length c3) (.bool fa) (.int .i64 fu) (.slice A6 sv.length c6)
  obtain ⟨W5, hW5⟩ : ∃ W5, W5 = set7 W4 rb (.slice A0 (newS n).stable.length c0) (.slice A1 (newS n).old.length c1) (.slice A2 (newS n).pend.length c2) (.slice A3 fl.length c3) (.bool fa) (.int .i64 fu) (.slice A6 sv.length c6) := ⟨_, rfl⟩
  have hbl := set7_below (HB3.out.trans (HB4.out.mono HB3.out.size)) hlr (.slice A0 (newS n).stable.length c0) (.slice A1 (newS n).old.length c1) (.slice A2 (newS n).pend.length c2) (.slice A3 fl.length c3) (.bool fa) (.int .i64 fu) (.slice A6 sv.length c6)
  rw [← hW5] at hbk hfar hbl hsz
  rw [show (((((((W4.setCell ⟨rb, 0, none⟩ (.slice A0 (newS n).stable.length c0)).setCell ⟨rb, 1, none⟩ (.slice A1 (newS n).old.length c1)).setCell ⟨rb, 2, none⟩ (.slice A2 (newS n).pend.length c2)).setCell ⟨rb, 3, none⟩ (.slice A3 fl.length c3)).setCell ⟨rb, 4, none⟩ (.bool fa)).setCell ⟨rb, 5, none⟩ (.int .i64 fu)).setCell ⟨rb, 6, none⟩ (.slice A6 sv.length c6)) = W5 from hW5.symm]
  have hbk' : W5.drew.heap[rb]? = some (.cells #[.slice A0 (newS n).stable.length c0, .slice A1 (newS n).old.length c1, .slice A2 (newS n).pend.length c2, .slice A3 fl.length c3, .bool fa, .int .i64 fu, .slice A6 sv.length c6] 31 (0, 0)) := hbk
  refine bodyPost_ret (results_tct rfl _ _ rb 31 #[.slice A0 (newS n).stable.length c0, .slice A1 (newS n).old.length c1, .slice A2 (newS n).pend.length c2, .slice A3 fl.length c3, .bool fa, .int .i64 fu, .slice A6 sv.length c6] (0, 0) _ rfl hbk' Try.underlying31 rfl (by kernel_rfl)) rfl ?_
  have hI5 : DevIs W5.drew W.heap.size L F (newS n) := ((HI3.out.below HB4.out).lower hle1).move (fun k hk => hfar k (fun e => HNR.out (e ▸ hk))) (by show W4.heap.size ≤ W5.heap.size; omega)
  have hR5 : RefIs W5.drew (fun k => ¬ F k) (.agg #[.slice A0 (newS n).stable.length c0, .slice A1 (newS n).old.length c1, .slice A2 (newS n).pend.length c2, .slice A3 fl.length c3, .bool fa, .int .i64 fu, .slice A6 sv.length c6]) (newS n) := by
    have h0 : RefIs W3 (fun k => W2.heap.size ≤ k) (.agg #[.slice A0 (newS n).stable.length c0, .slice A1 (newS n).old.length c1, .slice A2 (newS n).pend.length c2, .slice A3 fl.length c3, .bool fa, .int .i64 fu, .slice A6 sv.length c6]) (newS n) := ⟨_, _, _, _, _, fl, fu, sv, { HA3.out with hv := by rw [HFA.out] }⟩
    refine ((h0.below HB4.out).step (W1 := W5.drew) (fun k hk _ => hfar k (fun e => by omega))).mono (fun k hk _ => HFN.out k hk)
  exact ⟨L, F, _, rfl, hI5, hR5, hbl.drew⟩
end Go.Proofs.Ytflajmgichdhhaa.PG

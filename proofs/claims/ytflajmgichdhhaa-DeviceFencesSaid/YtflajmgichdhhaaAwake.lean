/- Full; the example of the chapter. -/
import Derived.Test.YtflajmgichdhhaaNew
import Derived.BigQuiet


namespace Go.Proofs.Ytflajmgichdhhaa.PG
open Go.RowKit Go.Proofs.YtflajmgichdhhaaW.PrintWords Go.Proofs.YtflajmgichdhhaaW.PrintLast Go.Proofs.YtflajmgichdhhaaW.PrintMore

set_option linter.unusedVariables false
set_option linter.unusedSimpArgs false
/-! ### Full -/
def padS (x : ByteArray) : ByteArray := x ++ ⟨(List.replicate (140 - x.size) 0).toArray⟩
def fullS (s : ByteArray) : ByteArray := padS (s.extract 0 140)
theorem padS_size (x : ByteArray) (h : x.size ≤ 140) : (padS x).size = 140 := by
  unfold padS
  rw [ByteArray.size_append]
  show x.size + (List.replicate (140 - x.size) (0 : UInt8)).toArray.size = 140
  rw [List.size_toArray, List.length_replicate]
  omega
theorem fullS_size (s : ByteArray) : (fullS s).size = 140 := padS_size _ (by rw [ByteArray.size_extract]; omega)
theorem pad_done (x : ByteArray) (h : 140 ≤ x.size) : padS x = x := by
  unfold padS
  rw [show 140 - x.size = 0 by omega]
  apply ByteArray.ext
  simp
theorem pad_step (x : ByteArray) (h : x.size < 140) : padS (x ++ ⟨#[0]⟩) = padS x := by
  unfold padS
  have e : (x ++ (⟨#[0]⟩ : ByteArray)).size = x.size + 1 := by rw [ByteArray.size_append]; rfl
  rw [e]
  obtain ⟨d, hd⟩ : ∃ d, 140 - x.size = d + 1 := ⟨140 - x.size - 1, by omega⟩
  rw [hd, show 140 - (x.size + 1) = d by omega]
  apply ByteArray.ext
  apply Array.toList_inj.1
  simp [List.replicate_succ]
theorem padded_l0 : ∀ (d : Nat) (x : ByteArray), 140 - x.size ≤ d → ∃ k, dasdref01_Padded.l0 k x 140 = some (padS x)
  | 0, x, h => ⟨1, by unfold dasdref01_Padded.l0; rw [if_neg (by omega), pad_done x (by omega)]⟩
  | d + 1, x, h => by
    by_cases hx : x.size < 140
    · have e : (x ++ (⟨#[0]⟩ : ByteArray)).size = x.size + 1 := by rw [ByteArray.size_append]; rfl
      obtain ⟨k, hk⟩ := padded_l0 d (x ++ ⟨#[0]⟩) (by omega)
      refine ⟨k + 1, ?_⟩
      unfold dasdref01_Padded.l0
      rw [if_pos (by omega), if_pos (by omega), hk, pad_step x hx]
    · exact ⟨1, by unfold dasdref01_Padded.l0; rw [if_neg (by omega), pad_done x (by omega)]⟩
theorem full_f (s : ByteArray) : ∃ k, dasdref03_Full.f k s = some (fullS s) := by
  unfold fullS
  by_cases h : (s.size : Int) > 140
  · obtain ⟨k, hk⟩ := padded_l0 140 (s.extract 0 140) (by omega)
    refine ⟨k, ?_⟩
    unfold dasdref03_Full.f dasdref01_Padded.f
    rw [if_pos h, if_pos (by decide), if_pos (by omega), hk]
    rfl
  · have e : s.extract 0 140 = s := by
      apply ByteArray.ext
      simp
      exact Or.inr (by omega)
    rw [e]
    obtain ⟨k, hk⟩ := padded_l0 140 s (by omega)
    refine ⟨k, ?_⟩
    unfold dasdref03_Full.f dasdref01_Padded.f
    rw [if_neg h, hk]
    rfl
theorem full_calls (W : World) (s : ByteArray) : Calls Try.prog 19 #[.string s] W fun e W' => e = .returned (.string (fullS s)) ∧ Below W.heap.size W W' := by
  obtain ⟨k, hk⟩ := full_f s
  refine (dasdref03_Full.calls k s _ W hk).mono ?_
  rintro e W' ⟨he, hd⟩
  exact ⟨he, hd.below⟩
theorem DevPost.keep {W W' : World} {B : Nat} {L : Lay} {F : Nat → Prop} {S : DevS} (h : DevPost B L F S W W') : ∃ F', DevIs W' B L F' S ∧ (∀ b o, W.heap[b]? = some o → ¬ F b → W'.heap[b]? = some o ∧ ¬ F' b) ∧ Below B W W' ∧ W.heap.size ≤ W'.heap.size := by
  obtain ⟨F', h1, h2, h3, h4⟩ := h
  refine ⟨F', h1, fun b o hb hf => ⟨blk_kept hb h3 hf, fun z => (h2 b z).elim hf (fun y => ?_)⟩, h4, h3.1⟩
  have := (Array.getElem?_eq_some_iff.1 hb).1
  omega
/-! ### awake -/
def awS : ByteArray := fullS ⟨#[97, 98, 99, 100, 101, 102]⟩
def awT : ByteArray := fullS ⟨#[97, 98, 99]⟩
def aw0 : DevS := newS 2
def aw1 : DevS := (writeS aw0 1 5 0 awS).2
def aw2 : DevS := finishS (isOf 1) [3] aw1
def aw3 : DevS := fenceS aw2 1 5
def aw4 : DevS := (writeS aw3 1 5 0 awS).2
theorem aw_w1 : (writeS aw0 1 5 0 awS).1 = 0 := by kernel_rfl
theorem aw_p1 : pendN aw1 1 = 1 := by kernel_rfl
theorem aw_r1 : readS aw1 0 = (awS, 0) := by kernel_rfl
theorem aw_r2 : readS aw2 0 = (awT, 0) := by kernel_rfl
theorem aw_o3 : oldN aw3 0 = 1 := by kernel_rfl
theorem aw_w4 : (writeS aw3 1 5 0 awS).1 = 13 := by kernel_rfl
theorem aw_w5 : (writeS aw4 1 6 0 awS).1 = 0 := by kernel_rfl
theorem fine_w {k : Nat} {S : DevS} (h : Fine k S) (sys ep sec : Int) (d : ByteArray) : Fine (k + 1) (writeS S sys ep sec d).2 := by
  unfold writeS
  split
  · rename_i h1
    split
    · rename_i h2
      split
      · rename_i h3
        obtain ⟨e1, e2⟩ := admit_zero h3
        have ha := (h.admit sys ep).mono (Nat.le_succ k)
        have hp : 1 ≤ sys ∧ sys ≤ 4 ∧ 0 ≤ ep ∧ ep ≤ 1099511627776 := of_decide_eq_true h1.1
        refine { ha with pend := ?_, plen := ?_ }
        · intro w hw
          rcases List.mem_append.1 (show w ∈ (admitS S sys ep).2.pend ++ [⟨sys, sec, d⟩] from hw) with hw | hw
          · exact ha.pend w hw
          · rw [List.mem_singleton.1 hw]
            show 1 ≤ sys ∧ sys ≤ 4 ∧ 0 ≤ sec ∧ sec < (((admitS S sys ep).2.stable.length : Nat) : Int) ∧ d.size = 140
            rw [e2]
            exact ⟨hp.1, hp.2.1, h2.1, h2.2, h1.2⟩
        · show ((admitS S sys ep).2.pend ++ [_]).length ≤ k + 1
          rw [e1, List.length_append]
          have := h.plen
          simp
          exact this
      · exact (h.admit sys ep).mono (Nat.le_succ k)
    · exact h.mono (Nat.le_succ k)
  · exact h.mono (Nat.le_succ k)
theorem Fine.fence {k : Nat} {S : DevS} (h : Fine k S) (sys ep : Int) : Fine k (fenceS S sys ep) := by
  have key : ∀ b : Bool, Fine k (if b = true then { S with fences := fun a => if a = sys then some ep else S.fences a } else S) := fun b => by
    cases b
    · exact h
    · exact { h with }
  unfold fenceS
  split
  · exact h
  · exact key _
theorem fine_aw1 : Fine 1 aw1 := fine_w (fine_new 2 (by decide) (by decide)) _ _ _ _
theorem fine_aw2 : Fine 1 aw2 := fine_aw1.finish _ _
theorem fine_aw3 : Fine 1 aw3 := fine_aw2.fence _ _
theorem fine_aw4 : Fine 2 aw4 := fine_w fine_aw3 _ _ _ _
theorem DevIs.at_ {W : World} {B : Nat} {L : Lay} {F : Nat → Prop} {S : DevS} (h : DevIs W B L F S) : ∃ vs pv uv m, DevAt W B L vs pv uv m F S := h
/-- Read, Pending, Old on a device that is told without its parts. -/
theorem readI {W : World} {B : Nat} {L : Lay} {F : Nat → Prop} {S : DevS} (h : DevIs W B L F S) (hpl : S.pend.length ≤ 1000000) (i : Int) :
    Calls Try.prog 23 #[.pointer (some ⟨L.g, 0, none⟩), .int .i64 i] W fun e W' => e = .returned (.tuple #[.string (readS S i).1, .int .i64 (readS S i).2]) ∧ W = W' := by
  obtain ⟨vs, pv, uv, m, h⟩ := h
  exact read_calls h hpl i
theorem pendI {W : World} {B : Nat} {L : Lay} {F : Nat → Prop} {S : DevS} (h : DevIs W B L F S) (hpl : S.pend.length ≤ 1000000) (i : Int) :
    Calls Try.prog 24 #[.pointer (some ⟨L.g, 0, none⟩), .int .i64 i] W fun e W' => e = .returned (.int .i64 (pendN S i : Int)) ∧ Below W.heap.size W W' := by
  obtain ⟨vs, pv, uv, m, h⟩ := h
  exact pending_calls h hpl i
theorem oldI {W : World} {B : Nat} {L : Lay} {F : Nat → Prop} {S : DevS} (h : DevIs W B L F S) (hlen : S.old.length = S.stable.length) (i : Int) :
    Calls Try.prog 25 #[.pointer (some ⟨L.g, 0, none⟩), .int .i64 i] W fun e W' => e = .returned (.int .i64 (oldN S i)) ∧ W = W' := by
  obtain ⟨vs, pv, uv, m, h⟩ := h
  exact old_calls h hlen i
set_option maxHeartbeats 4000000 in
set_option maxRecDepth 100000 in
theorem awake_calls (W : World) :
    Calls Try.prog 10 #[] W fun e W' => e = .returned (.bool true) ∧ Below W.heap.size W W' := by
  have e1 : ∀ k, Calls Try.prog 19 #[.string ⟨#[97, 98, 99, 100, 101, 102]⟩] k fun e W' => e = .returned (.string awS) ∧ Below k.heap.size k W' := fun k => full_calls k _
  have e2 : ∀ k, Calls Try.prog 19 #[.string ⟨#[97, 98, 99]⟩] k fun e W' => e = .returned (.string awT) ∧ Below k.heap.size k W' := fun k => full_calls k _
  have hsS : awS.size = 140 := fullS_size _
  have E1 := Aside0.mk e1
  have E2 := Aside0.mk e2
  have HSS := Aside0.mk hsS
  have hqS : (awS.toList == awS.toList) = true := bytes_yes rfl
  have hqT : (awT.toList == awT.toList) = true := bytes_yes rfl
  clear e1 e2 hsS
  go_enter Try.func10, Try.ntmps10
  go_wp2_with fail
  refine (new_calls W 2 (by decide) (by decide)).mono ?_
  rintro e W1 ⟨L, F1, rfl, hI1, hb1⟩
  have HI1 := Aside0.mk hI1
  have HB1 := Aside0.mk hb1
  clear hI1 hb1
  go_wp2_with fail
  refine (E1.out W1).mono ?_
  rintro e W2 ⟨rfl, hb2⟩
  have HI2 := Aside0.mk (HI1.out.below hb2)
  have HB2 := Aside0.mk (HB1.out.trans (hb2.mono HB1.out.size))
  clear hb2 HI1 HB1
  go_wp2_with fail
  obtain ⟨W3, hW3⟩ : ∃ W3, W3 = W2.alloc (.cells #[.int .i64 1, .int .i64 5] 35) := ⟨_, rfl⟩
  obtain ⟨wb, hwb⟩ : ∃ wb, wb = W2.heap.size := ⟨_, rfl⟩
  have hx3 : W3.heap[wb]? = some (.cells #[.int .i64 1, .int .i64 5] 35 (0, 0)) := by rw [hW3, hwb]; exact blk_new _ _
  have hn3 : ¬ F1 wb := fun z => by have := (HI2.out.range _ z).2; omega
  have HI3 := Aside0.mk (show DevIs W3 W.heap.size L F1 aw0 by rw [hW3]; exact HI2.out.below (below_alloc (Below.refl _ _) _))
  have HB3 := Aside0.mk (show Below W.heap.size W W3 by rw [hW3]; exact HB2.out.trans ((below_alloc (Below.refl _ _) _).mono HB2.out.size))
  have x3 : W3.cell? ⟨wb, 0, none⟩ = some (.int .i64 1) := by rw [blk_cell hx3]; rfl
  have x3' : W3.cell? ⟨wb, 1, none⟩ = some (.int .i64 5) := by rw [blk_cell hx3]; rfl
  rw [← hW3, ← hwb]
  have HX3 := Aside0.mk hx3
  have HN3 := Aside0.mk hn3
  clear hW3 hwb hx3 hn3 HI2 HB2
  refine (write_calls HI3.out (fine_new 2 (by decide) (by decide)) (by decide) (by decide) 1 5 0 awS).mono ?_
  rintro e W4 ⟨rfl, hpo⟩
  rw [aw_w1]
  obtain ⟨F4, hI4, hk4, hb4, hs4⟩ := hpo.keep
  obtain ⟨hx4, hn4⟩ := hk4 wb _ HX3.out HN3.out
  have HI4 := Aside0.mk (show DevIs W4 W.heap.size L F4 aw1 from hI4)
  have HB4 := Aside0.mk (HB3.out.trans hb4)
  have HX4 := Aside0.mk hx4
  have HN4 := Aside0.mk hn4
  clear hpo hI4 hk4 hb4 hs4 hx4 hn4 HI3 HB3 HX3 HN3 x3 x3'
  go_wp2_with fail
  refine (pendI HI4.out (Nat.le_trans fine_aw1.plen (by decide)) 1).mono ?_
  rintro e W5 ⟨rfl, hb5⟩
  rw [aw_p1]
  have HI5 := Aside0.mk (HI4.out.below hb5)
  have HX5 := Aside0.mk (blk_below HX4.out hb5)
  have HB5 := Aside0.mk (HB4.out.trans (hb5.mono HB4.out.size))
  clear hb5 HI4 HB4 HX4
  go_wp2_with fail
  refine (readI HI5.out (Nat.le_trans fine_aw1.plen (by decide)) 0).mono ?_
  rintro e W6 ⟨rfl, rfl⟩
  rw [aw_r1]
  go_wp2_with fail
  have hb7 := below_alloc (Below.refl W5.heap.size W5) (.cells #[.int .i64 3] 3)
  have HB7 := Aside0.mk (HB5.out.trans (hb7.mono HB5.out.size))
  have HI7 := Aside0.mk (HI5.out.below hb7)
  have HX7 := Aside0.mk (blk_below HX5.out hb7)
  have hn7 : ¬ F4 W5.heap.size := fun z => by have := (HI5.out.range _ z).2; omega
  refine (crash_calls HI7.out fine_aw1 (by decide) 1 (some ⟨W5.heap.size, 0, none⟩) 1 [3] (ints_F (blk_new _ _) (by decide) hn7) (by decide) (by decide)).mono ?_
  rintro e W8 ⟨rfl, hpo⟩
  obtain ⟨F8, hI8, hk8, hb8, hs8⟩ := hpo.keep
  obtain ⟨hx8, hn8⟩ := hk8 wb _ HX7.out HN4.out
  have HI8 := Aside0.mk (show DevIs W8 W.heap.size L F8 aw2 from hI8)
  have HB8 := Aside0.mk (HB7.out.trans hb8)
  have HX8 := Aside0.mk hx8
  have HN8 := Aside0.mk hn8
  clear hpo hI8 hk8 hb8 hs8 hx8 hn8 HI5 HB5 HX5 HN4 HI7 HB7 HX7 hb7 hn7
  go_wp2_with fail
  refine (readI HI8.out (Nat.le_trans fine_aw2.plen (by decide)) 0).mono ?_
  rintro e W9 ⟨rfl, rfl⟩
  rw [aw_r2]
  go_wp2_with fail
  refine (fence_calls HI8.out 1 5).mono ?_
  rintro e W10 ⟨rfl, hpo⟩
  obtain ⟨F10, hI10, hk10, hb10, hs10⟩ := hpo.keep
  obtain ⟨hx10, hn10⟩ := hk10 wb _ HX8.out HN8.out
  have HI10 := Aside0.mk (show DevIs W10 W.heap.size L F10 aw3 from hI10)
  have HB10 := Aside0.mk (HB8.out.trans hb10)
  have HX10 := Aside0.mk hx10
  have HN10 := Aside0.mk hn10
  clear hpo hI10 hk10 hb10 hs10 hx10 hn10 HI8 HB8 HX8 HN8
  go_wp2_with fail
  refine (E2.out W10).mono ?_
  rintro e W11 ⟨rfl, hb11⟩
  have HI11 := Aside0.mk (HI10.out.below hb11)
  have HX11 := Aside0.mk (blk_below HX10.out hb11)
  have HB11 := Aside0.mk (HB10.out.trans (hb11.mono HB10.out.size))
  clear hb11 HI10 HB10 HX10
  go_wp2_with fail
  refine (oldI HI11.out fine_aw3.len 0).mono ?_
  rintro e W12 ⟨rfl, rfl⟩
  rw [aw_o3]
  have x12 : W11.cell? ⟨wb, 0, none⟩ = some (.int .i64 1) := by rw [blk_cell HX11.out]; rfl
  have x12' : W11.cell? ⟨wb, 1, none⟩ = some (.int .i64 5) := by rw [blk_cell HX11.out]; rfl
  go_wp2_with fail
  refine (write_calls HI11.out fine_aw3 (by decide) (by decide) 1 5 0 awS).mono ?_
  rintro e W13 ⟨rfl, hpo⟩
  rw [aw_w4]
  obtain ⟨F13, hI13, hk13, hb13, hs13⟩ := hpo.keep
  have HI13 := Aside0.mk (show DevIs W13 W.heap.size L F13 aw4 from hI13)
  have HB13 := Aside0.mk (HB11.out.trans hb13)
  clear hpo hI13 hk13 hb13 hs13 HI11 HB11 HX11 x12 x12'
  go_wp2_with fail
  refine (write_calls HI13.out fine_aw4 (by decide) (by decide) 1 6 0 awS).mono ?_
  rintro e W14 ⟨rfl, hpo⟩
  rw [aw_w5]
  obtain ⟨F14, hI14, hk14, hb14, hs14⟩ := hpo.keep
  have HB14 := Aside0.mk (HB13.out.trans hb14)
  clear hpo hI14 hk14 hb14 hs14
  go_wp2_with fail
  go_ret
  exact ⟨rfl, HB14.out⟩
end Go.Proofs.Ytflajmgichdhhaa.PG

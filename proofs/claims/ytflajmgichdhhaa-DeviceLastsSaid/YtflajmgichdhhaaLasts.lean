/- What was written and synced lasts: the walk of DeviceLasts. -/
import Derived.Test.YtflajmgichdhhaaRest
import Derived.BigQuiet
import Derived.Test.YtflajmgichdhhaaCrashS
import Derived.Test.YtflajmgichdhhaaReturns

namespace Go.Proofs.Ytflajmgichdhhaa.PG
open Go.RowKit Go.Proofs.YtflajmgichdhhaaW.PrintWords Go.Proofs.YtflajmgichdhhaaW.PrintLast Go.Proofs.YtflajmgichdhhaaW.PrintMore

set_option linter.unusedVariables false
set_option linter.unusedSimpArgs false
set_option maxHeartbeats 4000000 in
set_option maxRecDepth 100000 in
theorem lasts_calls (W : World) (sec : Int) (hs0 : 0 ≤ sec) (hs1 : sec < 256) (text : ByteArray) (A2 : Option Addr) (c2 : Nat) (l : List S37) (hC2 : Kd.C k37 W A2 l.length l) (hc2 : l.length ≤ c2) (hm2 : c2 ≤ maxLen) (hw2 : ∀ o ∈ l, Opens.OpWf o)
    (A3 : Option Addr) (c3 : Nat) (sv : List Int) (hC3 : Kd.C (Kd.int .i64) W A3 sv.length sv) (hc3 : sv.length ≤ c3) (hm3 : c3 ≤ maxLen) :
    Calls Try.prog 9 #[.int .u8 sec, .string text, .slice A2 l.length c2, .slice A3 sv.length c3] W fun e W' => e = .returned (.bool true) ∧ Below W.heap.size W W' := by
  have HC := Aside0.mk hC2
  have HS := Aside0.mk hC3
  have HWF := Aside0.mk hw2
  have hfew := fun (w : World) (h : Below W.heap.size W w) => few_calls w A2 c2 l 15 (Kd.C_below hC2 h) hc2 hm2
  have HFEW := Aside0.mk hfew
  clear hC2 hC3 hw2 hfew hm2
  go_enter Try.func9, Try.ntmps9
  go_wp2_with fail
  refine (awake_calls W).mono ?_
  rintro e W1 ⟨rfl, hb1⟩
  have HB1 := Aside0.mk hb1
  clear hb1
  go_wp2_with fail
  refine (HFEW.out W1 HB1.out).mono ?_
  rintro e W2 ⟨r, rfl, hr, hb2⟩
  have HB2 := Aside0.mk (HB1.out.trans (hb2.mono HB1.out.size))
  clear hb2 HFEW HB1
  have over : (r = false ∨ 40 < (sv.length : Int)) ∨ (r = true ∧ ¬ 40 < (sv.length : Int)) := by cases r <;> by_cases h : 40 < (sv.length : Int) <;> simp [h]
  rcases over with hov | ⟨rfl, hsv⟩
  · have ways : r = false ∨ (r = true ∧ decide (40 < (sv.length : Int)) = true) := by
      cases r
      · exact Or.inl rfl
      · exact Or.inr ⟨rfl, decide_eq_true (hov.resolve_left (by simp))⟩
    clear hov hr
    rcases ways with rfl | ⟨rfl, hd⟩
    all_goals
      go_wp2_with fail
      refine (awake_calls W2).mono ?_
      rintro e W3 ⟨rfl, hb3⟩
      have HB3 := Aside0.mk (HB2.out.trans (hb3.mono HB2.out.size))
      clear hb3
      go_wp2_with fail
      go_ret
      exact ⟨rfl, HB3.out⟩
  · have hd : decide (40 < (sv.length : Int)) = false := decide_eq_false hsv
    obtain ⟨hl15, hl100⟩ := hr rfl
    have HL100 := Aside0.mk hl100
    have H40 := Aside0.mk (show sv.length ≤ 4611686018427387904 by omega)
    clear hr hl100 hsv
    go_wp2_with fail
    refine (begin_calls W2 5 (by decide) (by decide) 6 (by decide)).mono ?_
    rintro e W3 ⟨L, F, v, rfl, hI, hR, hb3⟩
    obtain ⟨v0, v1, v2, v3, v6, fl, fu, svv, hA⟩ := hR
    obtain rfl := hA.hv
    obtain ⟨Aa0, cc0, e0, _⟩ := hA.h0
    obtain ⟨Aa1, cc1, e1, _⟩ := hA.h1
    obtain ⟨Aa2, cc2, e2, _⟩ := hA.h2
    obtain ⟨Aa3, cc3, e3, _⟩ := hA.h3
    obtain ⟨Aa6, cc6, e6, _⟩ := hA.h6
    subst e0 e1 e2 e3 e6
    have HI3 := Aside0.mk (Inv.start (W0 := W) (hI.lower HB2.out.size) (HB2.out.trans (hb3.mono HB2.out.size)))
    clear hI hA hb3 HB2
    go_wp2_with fail
    have hi4 := HI3.out.below (below_alloc (Below.refl _ _) (.cells #[.slice Aa0 (newS 6).stable.length cc0, .slice Aa1 (newS 6).old.length cc1, .slice Aa2 (newS 6).pend.length cc2, .slice Aa3 fl.length cc3, .bool (newS 6).failed, .int .i64 fu, .slice Aa6 svv.length cc6] 31))
    have HI4 := Aside0.mk hi4
    clear hi4 HI3
    go_loopg [13, 43] l.length (fun gg _ s43 wr => ∃ (j : Nat) (S : DevS), s43 = .int .i64 j ∧ j ≤ l.length ∧ l.length - j ≤ gg ∧ Aside0 (Inv W L [] S wr) ∧ Aside0 (Good j S) ∧ Aside0 (Calm S) ∧ Aside0 (S.stable.length = 6))
    case atStart => exact ⟨0, newS 6, by go_num, Nat.zero_le _, by omega, HI4, ⟨⟨fine_new 6 (by decide) (by decide), Nat.zero_le _⟩⟩, ⟨⟨rfl, fun _ => rfl, rfl⟩⟩, ⟨rfl⟩⟩
    case round =>
      clear HI4
      obtain ⟨j, S, rfl, hj, hgg, HI, HG, HCA, HLN⟩ := hrel
      by_cases hlt : j < l.length
      · have hltz : (j : Int) < (l.length : Int) := by omega
        obtain ⟨ad, A7, c7, e, h0, h1, h2, h3, h4, h5, h6, h7, h8, h9⟩ := op_at HC.out HI.out.bel j hlt
        have hwf := HWF.out _ (List.getElem_mem hlt)
        have hf100 := HL100.out _ (List.getElem_mem hlt)
        obtain ⟨o, ho⟩ : ∃ o, o = l[j] := ⟨_, rfl⟩
        rw [← ho] at h0 h1 h2 h3 h4 h5 h6 h7 h8 h9 hwf hf100
        subst e
        have hk0 := hwf.kind.1
        have hk1 := hwf.kind.2
        have hdo := fun (w : World) (h : Inv W L [] S w) => h.do HG.out (by omega) o hwf A7 c7 h9 h8 (by omega)
        have HDO := Aside0.mk hdo
        have HGN := Aside0.mk (HG.out.do o hwf (by omega))
        have HLD := Aside0.mk ((len_do o S).trans HLN.out)
        clear ho hwf hf100 h9 h8 hdo
        have ways : (o.f0 % 8 = 3 ∨ o.f0 % 8 = 4) ∨ (o.f0 % 8 ≠ 3 ∧ o.f0 % 8 ≠ 4) := by omega
        rcases ways with hx | ⟨hx3, hx4⟩
        · have wy : ((o.f0 % 8 == 3) = true ∧ (o.f0 % 8 != 3) = false) ∨ (((o.f0 % 8 == 3) = false ∧ (o.f0 % 8 != 3) = true) ∧ ((o.f0 % 8 == 4) = true ∧ (o.f0 % 8 != 4) = false)) := by
            rcases hx with hx | hx
            · exact Or.inl ⟨by rw [hx]; rfl, by rw [hx]; rfl⟩
            · exact Or.inr ⟨⟨by rw [hx]; rfl, by rw [hx]; rfl⟩, ⟨by rw [hx]; rfl, by rw [hx]; rfl⟩⟩
          have HIA := Aside0.mk (HI.out.below (below_alloc (Below.refl _ _) (.cells (opCells o A7 c7) 37)))
          unfold opCells at HIA
          clear hx HI HDO
          rcases wy with ⟨d3, n3⟩ | ⟨⟨d3, n3⟩, d4, n4⟩
          all_goals
            go_wp2_with fail
            go_roundg (l.length - (j + 1))
            case measure => omega
            case rel => exact ⟨j + 1, S, by go_num, by omega, Nat.le_refl _, HIA, ⟨HG.out.mono (Nat.le_succ _)⟩, HCA, HLN⟩
        · have d3 : (o.f0 % 8 == 3) = false := beq_eq_false_iff_ne.2 hx3
          have d4 : (o.f0 % 8 == 4) = false := beq_eq_false_iff_ne.2 hx4
          have n3 : (o.f0 % 8 != 3) = true := bne_iff_ne.2 hx3
          have n4 : (o.f0 % 8 != 4) = true := bne_iff_ne.2 hx4
          have HCN := Aside0.mk (calm_do HCA.out o hx3 hx4)
          have hcall := HDO.out _ (HI.out.below (below_alloc (Below.refl _ _) (.cells (opCells o A7 c7) 37)))
          unfold opCells at hcall
          have HCALL := Aside0.mk hcall
          clear hcall hx3 hx4 HDO
          go_wp2_with fail
          refine HCALL.out.mono ?_
          rintro e W5 ⟨rfl, hi5⟩
          have HI5 := Aside0.mk hi5
          clear hi5 HCALL HI h0 h1 h2 h3 h4 h5 h6 h7
          go_wp2_with fail
          go_roundg (l.length - (j + 1))
          case measure => omega
          case rel => exact ⟨j + 1, (doS o S).2, by go_num, by omega, Nat.le_refl _, HI5, HGN, HCN, HLD⟩
      · obtain rfl : j = l.length := by omega
        obtain ⟨i, hi⟩ : ∃ i : Nat, sec % 6 = (i : Int) := ⟨(sec % 6).toNat, by omega⟩
        have hi6 : i < 6 := by omega
        have hi5 : (i : Int) ≤ 5 := by omega
        have hi0 : (0 : Int) ≤ (i : Int) := by omega
        have HLE := Aside0.mk hj
        clear hj hgg
        go_wp2_with fail
        refine (full_calls _ text).mono ?_
        rintro e W6 ⟨rfl, hb6⟩
        have HI6 := Aside0.mk ((HI.out.below hb6).add (.cells #[.int .i64 2, .int .i64 1] 35))
        obtain ⟨d, hd⟩ : ∃ d, d = fullS text := ⟨_, rfl⟩
        have HD := Aside0.mk (show d.size = 140 by rw [hd]; exact fullS_size text)
        rw [← hd]
        clear hb6 HI hd
        go_wp2_with fail
        obtain ⟨W7, hW7⟩ : ∃ W7, W7 = W6.alloc (.cells #[.int .i64 2, .int .i64 1] 35) := ⟨_, rfl⟩
        obtain ⟨b1, hb1⟩ : ∃ b1, b1 = W6.heap.size := ⟨_, rfl⟩
        rw [← hW7, ← hb1] at HI6
        rw [← hW7, ← hb1]
        clear hW7 hb1
        have HP0 := Aside0.mk (fun w (hw : w ∈ S.pend) => (HG.out.fine.pend w hw).1)
        go_loopg [17] 4 (fun gg s17 wr => ∃ (k : Nat) (S : DevS), s17 = .int .i64 k ∧ 1 ≤ k ∧ k ≤ 5 ∧ 5 - k ≤ gg ∧ Aside0 (Inv W L [(b1, (.cells #[.int .i64 2, .int .i64 1] 35 : Obj))] S wr) ∧ Aside0 (Good l.length S) ∧ Aside0 (Calm S) ∧ Aside0 (S.stable.length = 6) ∧ Aside0 (∀ w ∈ S.pend, (k : Int) ≤ w.f0))
        case atStart => exact ⟨1, S, by go_num, by omega, by omega, by omega, HI6, HG, HCA, HLN, HP0⟩
        case round =>
          clear HI6 HG HCA HLN HP0
          clear S
          obtain ⟨k, S, rfl, hk1, hk5, hgg, HI, HG, HCA, HLN, HP⟩ := hrel
          by_cases hlt : k ≤ 4
          · have hltz : (k : Int) ≤ 4 := by omega
            have hcr := HI.out.crash HG.out.fine (by omega) (k : Int) none 0 [] (Kd.C_nil _ _) (Nat.le_refl _) (by decide)
            have HCR := Aside0.mk (show Calls Try.prog 22 #[.pointer (some ⟨L.g, 0, none⟩), .int .i64 (k : Int), .slice none 0 0] wr fun e W' => e = .returned (.tuple #[]) ∧ Inv W L [(b1, (.cells #[.int .i64 2, .int .i64 1] 35 : Obj))] (finishS (isOf (k : Int)) [] S) W' from hcr)
            clear hcr HI
            go_wp2_with fail
            refine HCR.out.mono ?_
            rintro e W8 ⟨rfl, hi8⟩
            have HI8 := Aside0.mk hi8
            have HLN8 := Aside0.mk (show (finishS (isOf (k : Int)) [] S).stable.length = 6 from (len_finish _ _ _).trans HLN.out)
            clear hi8 HCR
            go_wp2_with fail
            go_roundg (5 - (k + 1))
            case measure => omega
            case rel => exact ⟨k + 1, _, by go_num, by omega, by omega, Nat.le_refl _, HI8, ⟨HG.out.finish _ _⟩, ⟨HCA.out.finish _ _⟩, HLN8, ⟨crash_pend HP.out []⟩⟩
          · obtain rfl : k = 5 := by omega
            have hnil : S.pend = [] := by
              cases hp : S.pend with
              | nil => rfl
              | cons w t =>
                exfalso
                have hm : w ∈ S.pend := by rw [hp]; simp
                have h1 := HP.out w hm
                have h2 := (HG.out.fine.pend w hm).2.1
                omega
            have hlen := HLN.out
            obtain ⟨S', hs, hp', hc', hr'⟩ := rest_sync HCA.out hnil i d HD.out (by omega) (HG.out.fine.size _ (getD_mem _ _ _ (by omega)))
            have hw := HCA.out.write 2 1 (i : Int) d (by decide) HD.out (by omega) (by omega)
            have hg1 := HG.out.write 2 1 (i : Int) d
            rw [hw] at hg1
            have hg2 := hg1.sync 2 1
            rw [hs] at hg2
            have HG1 := Aside0.mk hg1
            have HG2 := Aside0.mk hg2
            have HW := Aside0.mk hw
            have HSY := Aside0.mk hs
            have HR := Aside0.mk hr'
            have HP' := Aside0.mk hp'
            have HKK := Aside0.mk (show l.length + 1 ≤ 1000000 by omega)
            clear hnil hlen hs hp' hc' hr' hw hg1 hg2 hlt hk1 hk5
            have x0 : wr.cell? ⟨b1, 0, none⟩ = some (.int .i64 2) := by rw [blk_cell (HI.out.blk (List.mem_singleton.2 rfl))]; rfl
            have x1 : wr.cell? ⟨b1, 1, none⟩ = some (.int .i64 1) := by rw [blk_cell (HI.out.blk (List.mem_singleton.2 rfl))]; rfl
            go_wp2_with fail
            refine (HI.out.write HG.out.fine (by omega) HG.out.sl 2 1 (i : Int) d HW.out).mono ?_
            rintro e W9 ⟨rfl, hi9⟩
            have HI9 := Aside0.mk hi9
            clear hi9 HI x0 x1
            have x0 : W9.cell? ⟨b1, 0, none⟩ = some (.int .i64 2) := by rw [blk_cell (HI9.out.blk (List.mem_singleton.2 rfl))]; rfl
            have x1 : W9.cell? ⟨b1, 1, none⟩ = some (.int .i64 1) := by rw [blk_cell (HI9.out.blk (List.mem_singleton.2 rfl))]; rfl
            go_wp2_with fail
            refine (HI9.out.sync HG1.out.fine HKK.out HG1.out.sl 2 1 HSY.out).mono ?_
            rintro e W10 ⟨rfl, hi10⟩
            have HI10 := Aside0.mk hi10
            clear hi10 HI9 x0 x1
            go_wp2_with fail
            have hpl : S'.pend.length ≤ 1000000 := by rw [HP'.out]; decide
            refine (HI10.out.pend hpl 2 (n := 0) (by unfold pendN; rw [HP'.out]; rfl)).mono ?_
            rintro e W11 ⟨rfl, hi11⟩
            have HI11 := Aside0.mk hi11
            clear hi11 HI10 hpl
            go_wp2_with fail
            go_loopg [18] 4 (fun gg s18 wr => ∃ (k : Nat), s18 = .int .i64 k ∧ 1 ≤ k ∧ k ≤ 5 ∧ 5 - k ≤ gg ∧ Aside0 (Inv W L [(b1, (.cells #[.int .i64 2, .int .i64 1] 35 : Obj))] S' wr))
            case atStart => exact ⟨1, by go_num, by omega, by omega, by omega, HI11⟩
            case round =>
              clear HI11
              obtain ⟨k, rfl, hk1, hk5, hgg, HI⟩ := hrel
              by_cases hlt : k ≤ 4
              · have hltz : (k : Int) ≤ 4 := by omega
                have hcr := HI.out.crash HG2.out.fine HKK.out (k : Int) A3 c3 sv HS.out hc3 H40.out
                rw [finish_nil HP'.out] at hcr
                have HCR := Aside0.mk hcr
                clear hcr HI
                go_wp2_with fail
                refine HCR.out.mono ?_
                rintro e W12 ⟨rfl, hi12⟩
                have HI12 := Aside0.mk hi12
                clear hi12 HCR
                go_wp2_with fail
                go_roundg (5 - (k + 1))
                case measure => omega
                case rel => exact ⟨k + 1, by go_num, by omega, by omega, Nat.le_refl _, HI12⟩
              · obtain rfl : k = 5 := by omega
                have hpl : S'.pend.length ≤ 1000000 := by rw [HP'.out]; decide
                have hRD := HI.out.read hpl (i : Int) HR.out
                have HRD := Aside0.mk hRD
                have hyy : (d.toList == d.toList) = true := bytes_yes rfl
                clear hRD hpl hlt hk1 hk5
                go_wp2_with fail
                refine HRD.out.mono ?_
                rintro e W13 ⟨rfl, rfl⟩
                go_wp2_with fail
                go_ret
                exact ⟨rfl, HI.out.bel⟩
end Go.Proofs.Ytflajmgichdhhaa.PG

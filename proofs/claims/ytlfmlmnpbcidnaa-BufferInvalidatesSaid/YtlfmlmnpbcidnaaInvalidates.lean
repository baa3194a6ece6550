/- The walk of BufferInvalidates. -/
import Derived.Test.YtlfmlmnpbcidnaaShare
import Derived.BigQuiet

namespace Go.Proofs.Ytlfmlmnpbcidnaa.PG
open Go.RowKit Go.Proofs.YtlfmlmnpbcidnaaW.PrintWords Go.Proofs.YtlfmlmnpbcidnaaW.PrintLast Go.Proofs.YtlfmlmnpbcidnaaW.PrintMore
set_option linter.unusedVariables false
set_option linter.unusedSimpArgs false
attribute [local go_sem high] eqA40
theorem keep_older_none (a : S40) (ver : Int) (es : Ents) (h : a ∉ keys es) : keepEnts (older a ver) es = es := by
  refine List.filter_eq_self.2 (fun e he => ?_)
  have hne : e.1 ≠ a := fun z => h (z ▸ List.mem_map.2 ⟨e, he, rfl⟩)
  simp [older, hne]
theorem keep_older_used (a : S40) (ver : Int) (c : Cont) (es : Ents) : keepEnts (older a ver) (usedEnts a c es) = if c.ver < ver then keepEnts (isAt a) es else usedEnts a c es := by
  unfold usedEnts
  have h1 := keep_older_none a ver _ (not_keep a es)
  unfold keepEnts at h1 ⊢
  rw [List.filter_append, h1, List.filter_cons]
  by_cases h : c.ver < ver
  · rw [if_pos h, if_neg (by simp [older, h])]; simp
  · rw [if_neg h, if_pos (by simp [older, h])]; rfl
theorem RowAt.take {W : World} {rb cap : Nat} {ys : List S40} (h : RowAt W rb cap ys) (i : Nat) : RowAt W rb cap (ys.take i) := by
  obtain ⟨cur, hh, hs, hn, hc⟩ := h
  refine ⟨cur, hh, hs, by rw [List.length_take]; omega, fun j hj => ?_⟩
  rw [List.length_take] at hj
  rw [List.getElem_take]
  exact hc j (by omega)
theorem RowAt.toC {W : World} {rb cap : Nat} {ys : List S40} (h : RowAt W rb cap ys) (hm : cap ≤ maxLen) : Kd.C k40 W (some ⟨rb, 0, none⟩) ys.length ys :=
  (Kd.R_reads' (RowAt.toR (B := 0) (ok := fun _ => True) h (Nat.zero_le _) hm trivial)).2.2
theorem getR_used (a : S40) (c : Cont) (es : Ents) (S : PoolS) (h : S.ents = usedEnts a c es) : getR a S = (c, true) := by
  unfold getR
  rw [h, usedEnts, look_snoc, look_none a _ (not_keep a _)]
  simp
/-! ### BufferInvalidates -/
set_option maxHeartbeats 4000000 in
set_option maxRecDepth 100000 in
theorem invalidates_calls (W : World) (u : Int) (u0 : 0 ≤ u) (u1 : u < 256) (a : Option Addr) (cap : Nat) (l : List S38) (hC : Kd.C k38 W a l.length l) (hcap : l.length ≤ cap) (hm : cap ≤ maxLen) (id page ver : Int) :
    Calls Try.prog 5 #[.int .u8 u, .slice a l.length cap, .int .i64 id, .int .i64 page, .int .i64 ver] W fun e W' => e = .returned (.bool true) ∧ Below W.heap.size W W' := by
  have HC := Aside0.mk hC
  clear hC
  go_enter Try.func5, Try.ntmps5
  go_wp2_with fail
  refine (awake_calls W).mono ?_
  rintro e W1 ⟨rfl, hb1⟩
  have HB1 := Aside0.mk hb1
  have HC1 := Aside0.mk (Kd.C_below HC.out hb1)
  clear hb1
  go_wp2_with fail
  refine (few_calls W1 a cap l HC1.out hcap hm).mono ?_
  rintro e W2 ⟨r, rfl, hr, hb2⟩
  cases r with
  | false =>
    have HB2 := Aside0.mk (HB1.out.trans (hb2.mono HB1.out.size))
    clear hb2 hr HC1
    go_wp2_with fail
    go_ret
    exact ⟨rfl, HB2.out⟩
  | true =>
  have hlen := hr rfl
  have HB2 := Aside0.mk (HB1.out.trans (hb2.mono HB1.out.size))
  clear hb2 hr HC1 HB1
  go_wp2_with fail
  refine (start_calls W2 u u0 u1).mono ?_
  rintro e W3 ⟨rfl, hP3, hb3⟩
  have HB3 := Aside0.mk (HB2.out.trans (hb3.mono HB2.out.size))
  have HP3 := Aside0.mk (hP3.lower HB2.out.size)
  have HF3 := Aside0.mk (fine0 (1 + u % 8) (by omega) (by omega))
  have hsz3 : W.heap.size ≤ W3.heap.size := HB3.out.size
  obtain ⟨g, hg⟩ : ∃ g, g = W2.heap.size + 1 := ⟨_, rfl⟩
  rw [← hg] at HP3
  rw [← hg]
  obtain ⟨F3, hF3⟩ : ∃ F3 : Nat → Prop, F3 = (fun k => k = W2.heap.size ∨ k = g) := ⟨_, rfl⟩
  rw [← hF3] at HP3
  clear hb3 hP3 HB2 hg hF3
  go_wp2_with fail
  go_loopg [39] l.length (fun gg s39 wr => ∃ (i : Nat) (F : Nat → Prop), s39 = .int .i64 i ∧ i ≤ l.length ∧ l.length - i ≤ gg ∧ Aside0 (PoolIs wr W.heap.size g F (runS (l.take i) ⟨1 + u % 8, [], 0, 0⟩)) ∧ Aside0 (Fine i (runS (l.take i) ⟨1 + u % 8, [], 0, 0⟩)) ∧ Aside0 (Below W.heap.size W wr))
  case atStart => exact ⟨0, F3, by go_num, Nat.zero_le _, by omega, HP3, HF3, HB3⟩
  case round =>
    obtain ⟨i, F, rfl, hi, hgg, HP, HF, HB⟩ := hrel
    have hszr : W.heap.size ≤ wr.heap.size := HB.out.size
    by_cases hlt : i < l.length
    · have hltz : (i : Int) < (l.length : Int) := by omega
      obtain ⟨ad, e, h0, h1, h2, h3, h4⟩ := at_T38 (Kd.C_below HC.out HB.out) (i : Int) (by omega) hltz
      rw [rdT38_at l i hlt] at h0 h1 h2 h3 h4
      cases e
      rw [Int.toNat_natCast] at h0 h1 h2 h3 h4
      have HD := Aside0.mk (do_round W wr g i F _ l hlt (by omega) HP.out HF.out HB.out)
      go_wp2_with fail
      refine HD.out.mono ?_
      rintro e W4 ⟨rfl, F', hP4, hF4, hB4⟩
      have HP4 := Aside0.mk hP4
      have HF4 := Aside0.mk hF4
      have HB4 := Aside0.mk hB4
      clear hP4 hF4 hB4 HD HP HF HB h0 h1 h2 h3 h4
      go_wp2_with fail
      go_roundg (l.length - (i + 1))
      case measure => omega
      case rel => exact ⟨i + 1, F', by go_num, by omega, Nat.le_refl _, HP4, HF4, HB4⟩
    · obtain rfl : i = l.length := by omega
      rw [List.take_length] at HP HF
      obtain ⟨S, hS⟩ : ∃ S, S = runS l ⟨1 + u % 8, [], 0, 0⟩ := ⟨_, rfl⟩
      rw [← hS] at HP HF
      clear hS HP3 HF3 HB3
      obtain ⟨W4, hW4⟩ : ∃ W4, W4 = wr := ⟨_, rfl⟩
      subst hW4
      go_wp2_with fail
      have hfn := HF.out
      have hfn5 := hfn.get ⟨id, page⟩
      have hsm := hfn5.small
      have hg1 := get_calls W4 W.heap.size g l.length F S ⟨id, page⟩ HP.out hfn (by omega)
      cases hc : look ⟨id, page⟩ S.ents with
      | none =>
        have hr1 : getR ⟨id, page⟩ S = (⟨⟨#[]⟩, 0⟩, false) := by unfold getR; rw [hc]
        have hs1 : getS ⟨id, page⟩ S = missed S := by unfold getS; rw [hc]
        have hnk : (⟨id, page⟩ : S40) ∉ keys S.ents := fun h => by obtain ⟨c, h1, _⟩ := look_mem _ _ h; rw [hc] at h1; cases h1
        have hke := keep_older_none ⟨id, page⟩ ver S.ents hnk
        have hrem : decide ((keepEnts (older ⟨id, page⟩ ver) (missed S).ents).length < (missed S).ents.length) = false := by
          show decide ((keepEnts _ S.ents).length < S.ents.length) = false
          rw [hke]; simp
        obtain ⟨ys, hys⟩ : ∃ ys, ys = keys S.ents := ⟨_, rfl⟩
        have hks : keys (forgot (older ⟨id, page⟩ ver) (missed S)).ents = ys := by
          show keys (keepEnts _ S.ents) = ys
          rw [hke, hys]
        have hst : (getR ⟨id, page⟩ (forgot (older ⟨id, page⟩ ver) (missed S))).2 = false := by
          have : look ⟨id, page⟩ (forgot (older ⟨id, page⟩ ver) (missed S)).ents = none := by
            show look _ (keepEnts _ S.ents) = none
            rw [hke, hc]
          unfold getR; rw [this]
        have hk1 : keys (missed S).ents = ys := hys.symm
        have hyl : ys.length ≤ 8 := by rw [hys, keys_length]; exact hfn.small
        clear hys hnk hke hc
        rw [hs1] at hfn5
        rw [hr1, hs1] at hg1
        refine hg1.mono ?_
        rintro e W5 ⟨rfl, F5, hP5, hF5, hk5, hb5⟩
        have HP5 := Aside0.mk hP5
        have HN5 := Aside0.mk hfn5
        have HF5 := Aside0.mk hP5.range
        have HB5 := Aside0.mk (HB.out.trans hb5)
        have hs5 := hb5.size
        clear hP5 hF5 hk5 hb5 hg1 HP HB
        go_wp2_with fail
        refine (places_calls W5 _ _ _ _ HP5.out).mono ?_
        rintro e W6 ⟨v6, rfl, hR6, hb6⟩
        rw [hk1] at hR6
        obtain ⟨A6, c6, hv6, _, _⟩ := Kd.R_reads hR6
        subst hv6
        have HR6 := Aside0.mk hR6
        have HP6 := Aside0.mk (HP5.out.below hb6)
        have HB6 := Aside0.mk (HB5.out.trans (hb6.mono HB5.out.size))
        have hs6 := hb6.size
        clear hb6 hR6 HP5 HB5
        go_wp2_with fail
        have hin := inv_calls W6 W.heap.size g F5 _ ⟨id, page⟩ ver HP6.out
        rw [hrem] at hin
        refine hin.mono ?_
        rintro e W7 ⟨rfl, F7, hP7, hF7, hk7, hb7⟩
        have HP7 := Aside0.mk hP7
        have HF7 := Aside0.mk hF7
        have HR7 := Aside0.mk (R_kept HR6.out hk7 (fun k h1 h2 h3 z => by have := (HF5.out k z).2; omega))
        have HB7 := Aside0.mk (HB6.out.trans hb7)
        have hs7 := hb7.size
        clear hP7 hF7 hk7 hb7 hin HP6 HR6 HB6
        go_wp2_with fail
        refine (places_calls W7 _ _ _ _ HP7.out).mono ?_
        rintro e W8 ⟨v8, rfl, hR8, hb8⟩
        rw [hks] at hR8
        obtain ⟨A8, c8, hv8, _, _⟩ := Kd.R_reads hR8
        subst hv8
        have HR8 := Aside0.mk hR8
        have HR7' := Aside0.mk (Kd.R_below HR7.out hb8)
        have HP8 := Aside0.mk (HP7.out.below hb8)
        have HB8 := Aside0.mk (HB7.out.trans (hb8.mono HB7.out.size))
        have HF7' := Aside0.mk HP7.out.range
        have hs8 := hb8.size
        clear hb8 hR8 HP7 HB7 HR7
        go_wp2_with fail
        have hg2 := get_calls W8 W.heap.size g (l.length + 1) F7 _ ⟨id, page⟩ HP8.out (HN5.out.forgot _) (by omega)
        rw [hst] at hg2
        refine hg2.mono ?_
        rintro e W9 ⟨rfl, F9, _, _, hk9, hb9⟩
        have HR9 := Aside0.mk (R_kept HR8.out hk9 (fun k h1 h2 h3 z => by have := (HF7'.out k z).2; omega))
        have HQ9 := Aside0.mk (R_kept HR7'.out hk9 (fun k h1 h2 h3 z => (HF7.out k z).elim (fun y => by have h5 := (HF5.out k y).2; have h6 := h1.2.1; omega) (fun y => by have h6 := h1.2.2; omega)))
        have HB9 := Aside0.mk (HB8.out.trans hb9)
        have HC9 := Aside0.mk (Kd.R_reads' HR9.out).2.2
        have HC8 := Aside0.mk (Kd.R_reads' HQ9.out).2.2
        clear hk9 hb9 hg2 HR8 HR7' HP8 HB8 HR9 HQ9
        go_wp2_with fail
        obtain ⟨W10, hW10⟩ : ∃ W10, W10 = W9 := ⟨_, rfl⟩
        subst hW10
        go_loopg [108] ys.length (fun gg s108 w' => ∃ (j : Nat), s108 = .int .i64 j ∧ j ≤ ys.length ∧ ys.length - j ≤ gg ∧ Aside0 (Below W10.heap.size W10 w'))
        case atStart => exact ⟨0, by go_num, Nat.zero_le _, by omega, ⟨Below.refl _ _⟩⟩
        case round =>
          obtain ⟨j, rfl, hj2, hgj2, HBw⟩ := hrel
          by_cases hjl : j < ys.length
          · have hjz : (j : Int) < (ys.length : Int) := by omega
            obtain ⟨ad, e, q0, q1⟩ := at_T40 (Kd.C_below HC9.out HBw.out) (j : Int) (by omega) hjz
            obtain ⟨ad', e', r0, r1⟩ := at_T40 (Kd.C_below HC8.out HBw.out) (j : Int) (by omega) hjz
            rw [rdT40_at ys j hjl] at q0 q1 r0 r1
            cases e
            cases e'
            rw [Int.toNat_natCast] at q0 q1 r0 r1
            go_wp2_with fail
            go_quiet (fail)
            go_wp2_with fail
            go_roundg (ys.length - (j + 1))
            case measure => omega
            case rel => exact ⟨j + 1, by go_num, by omega, Nat.le_refl _, ⟨below_drewN HBw.out _⟩⟩
          · obtain rfl : j = ys.length := by omega
            go_wp2_with fail
            go_ret
            exact ⟨rfl, HB9.out.trans (HBw.out.mono HB9.out.size)⟩
      | some c =>
        have hr1 : getR ⟨id, page⟩ S = (c, true) := by unfold getR; rw [hc]
        have hs1 : getS ⟨id, page⟩ S = used ⟨id, page⟩ c (hit S) := by unfold getS; rw [hc]
        have hke := keep_older_used ⟨id, page⟩ ver c S.ents
        rw [hs1] at hfn5 hsm
        by_cases hv : c.ver < ver
        · rw [if_pos hv] at hke
          have hdv : decide (c.ver < ver) = true := decide_eq_true hv
          have hrem : decide ((keepEnts (older ⟨id, page⟩ ver) (used ⟨id, page⟩ c (hit S)).ents).length < (used ⟨id, page⟩ c (hit S)).ents.length) = true := by
            show decide ((keepEnts _ (usedEnts _ c S.ents)).length < (usedEnts _ c S.ents).length) = true
            rw [hke]; simp [usedEnts]
          obtain ⟨ys, hys⟩ : ∃ ys, ys = keys (keepEnts (isAt ⟨id, page⟩) S.ents) := ⟨_, rfl⟩
          obtain ⟨x, hx⟩ : ∃ x : S40, x = ⟨id, page⟩ := ⟨_, rfl⟩
          have hks : keys (forgot (older ⟨id, page⟩ ver) (used ⟨id, page⟩ c (hit S))).ents = ys := by
            show keys (keepEnts _ (usedEnts _ c S.ents)) = ys
            rw [hke, hys]
          have hst : (getR ⟨id, page⟩ (forgot (older ⟨id, page⟩ ver) (used ⟨id, page⟩ c (hit S)))).2 = false := by
            have : look ⟨id, page⟩ (forgot (older ⟨id, page⟩ ver) (used ⟨id, page⟩ c (hit S))).ents = none := by
              show look _ (keepEnts _ (usedEnts _ c S.ents)) = none
              rw [hke]; exact look_none _ _ (not_keep _ _)
            unfold getR; rw [this]
          have hk1 : keys (used ⟨id, page⟩ c (hit S)).ents = ys ++ [x] := by show keys (usedEnts _ c S.ents) = _; rw [usedEnts, keys_snoc, hys, hx]
          have hyl : ys.length ≤ 8 := by rw [hys, keys_length]; exact Nat.le_trans (List.length_filter_le _ _) hfn.small
          clear hys hke hc hx hv
          rw [hr1, hs1] at hg1
          refine hg1.mono ?_
          rintro e W5 ⟨rfl, F5, hP5, hF5, hk5, hb5⟩
          have HP5 := Aside0.mk hP5
          have HN5 := Aside0.mk hfn5
          have HF5 := Aside0.mk hP5.range
          have HB5 := Aside0.mk (HB.out.trans hb5)
          have hs5 := hb5.size
          clear hP5 hF5 hk5 hb5 hg1 HP HB
          go_wp2_with fail
          refine (places_calls W5 _ _ _ _ HP5.out).mono ?_
          rintro e W6 ⟨v6, rfl, hR6, hb6⟩
          rw [hk1] at hR6
          obtain ⟨rb, c6, hv6, hrow6, _, _, _⟩ := R_row hR6 (by simp)
          have hle6 := hrow6.le
          subst hv6
          have HR6 := Aside0.mk hR6
          have hl6 : (ys ++ [x]).length = ys.length + 1 := by simp
          rw [hl6] at hle6
          rw [hl6]
          have HP6 := Aside0.mk (HP5.out.below hb6)
          have HB6 := Aside0.mk (HB5.out.trans (hb6.mono HB5.out.size))
          have hs6 := hb6.size
          clear hb6 hR6 HP5 HB5
          go_wp2_with fail
          have hin := inv_calls W6 W.heap.size g F5 _ ⟨id, page⟩ ver HP6.out
          rw [hrem] at hin
          refine hin.mono ?_
          rintro e W7 ⟨rfl, F7, hP7, hF7, hk7, hb7⟩
          have HP7 := Aside0.mk hP7
          have HF7 := Aside0.mk hF7
          have HR7 := Aside0.mk (R_kept HR6.out hk7 (fun k h1 h2 h3 z => by have := (HF5.out k z).2; omega))
          have HB7 := Aside0.mk (HB6.out.trans hb7)
          have hs7 := hb7.size
          clear hP7 hF7 hk7 hb7 hin HP6 HR6 HB6
          go_wp2_with fail
          refine (places_calls W7 _ _ _ _ HP7.out).mono ?_
          rintro e W8 ⟨v8, rfl, hR8, hb8⟩
          rw [hks] at hR8
          obtain ⟨A8, c8, hv8, _, _⟩ := Kd.R_reads hR8
          subst hv8
          have HR8 := Aside0.mk hR8
          have HR7' := Aside0.mk (Kd.R_below HR7.out hb8)
          have HP8 := Aside0.mk (HP7.out.below hb8)
          have HB8 := Aside0.mk (HB7.out.trans (hb8.mono HB7.out.size))
          have HF7' := Aside0.mk HP7.out.range
          have hs8 := hb8.size
          clear hb8 hR8 HP7 HB7 HR7
          go_wp2_with fail
          have hg2 := get_calls W8 W.heap.size g (l.length + 1) F7 _ ⟨id, page⟩ HP8.out (HN5.out.forgot _) (by omega)
          rw [hst] at hg2
          refine hg2.mono ?_
          rintro e W9 ⟨rfl, F9, _, _, hk9, hb9⟩
          have HR9 := Aside0.mk (R_kept HR8.out hk9 (fun k h1 h2 h3 z => by have := (HF7'.out k z).2; omega))
          have HQ9 := Aside0.mk (R_kept HR7'.out hk9 (fun k h1 h2 h3 z => (HF7.out k z).elim (fun y => by have h5 := (HF5.out k y).2; have h6 := h1.2.1; omega) (fun y => by have h6 := h1.2.2; omega)))
          have HB9 := Aside0.mk (HB8.out.trans hb9)
          have HC9 := Aside0.mk (Kd.R_reads' HR9.out).2.2
          have HC8 := Aside0.mk (by
            obtain ⟨_, h1, _, hcm⟩ := RowAt.of_R HQ9.out
            have h := (h1.take ys.length).toC hcm
            rw [List.take_left'  rfl] at h
            exact h)
          clear hk9 hb9 hg2 HR8 HR7' HP8 HB8 HR9 HQ9
          go_wp2_with fail
          obtain ⟨W10, hW10⟩ : ∃ W10, W10 = W9 := ⟨_, rfl⟩
          subst hW10
          go_loopg [108] ys.length (fun gg s108 w' => ∃ (j : Nat), s108 = .int .i64 j ∧ j ≤ ys.length ∧ ys.length - j ≤ gg ∧ Aside0 (Below W10.heap.size W10 w'))
          case atStart => exact ⟨0, by go_num, Nat.zero_le _, by omega, ⟨Below.refl _ _⟩⟩
          case round =>
            obtain ⟨j, rfl, hj2, hgj2, HBw⟩ := hrel
            by_cases hjl : j < ys.length
            · have hjz : (j : Int) < (ys.length : Int) := by omega
              obtain ⟨ad, e, q0, q1⟩ := at_T40 (Kd.C_below HC9.out HBw.out) (j : Int) (by omega) hjz
              obtain ⟨ad', e', r0, r1⟩ := at_T40 (Kd.C_below HC8.out HBw.out) (j : Int) (by omega) hjz
              rw [rdT40_at ys j hjl] at q0 q1 r0 r1
              cases e
              cases e'
              rw [Int.toNat_natCast] at q0 q1 r0 r1
              have r0' := r0
              have r1' := r1
              simp only [add_plain, Nat.zero_add] at r0' r1'
              go_wp2_with fail
              go_quiet (fail)
              go_wp2_with fail
              go_roundg (ys.length - (j + 1))
              case measure => omega
              case rel => exact ⟨j + 1, by go_num, by omega, Nat.le_refl _, ⟨below_drewN HBw.out _⟩⟩
            · obtain rfl : j = ys.length := by omega
              go_wp2_with fail
              go_ret
              exact ⟨rfl, HB9.out.trans (HBw.out.mono HB9.out.size)⟩
        · rw [if_neg hv] at hke
          have hdv : decide (c.ver < ver) = false := decide_eq_false hv
          have hrem : decide ((keepEnts (older ⟨id, page⟩ ver) (used ⟨id, page⟩ c (hit S)).ents).length < (used ⟨id, page⟩ c (hit S)).ents.length) = false := by
            show decide ((keepEnts _ (usedEnts _ c S.ents)).length < (usedEnts _ c S.ents).length) = false
            rw [hke]; simp
          obtain ⟨ys, hys⟩ : ∃ ys, ys = keys (usedEnts ⟨id, page⟩ c S.ents) := ⟨_, rfl⟩
          have hks : keys (forgot (older ⟨id, page⟩ ver) (used ⟨id, page⟩ c (hit S))).ents = ys := by
            show keys (keepEnts _ (usedEnts _ c S.ents)) = ys
            rw [hke, hys]
          have hst : (getR ⟨id, page⟩ (forgot (older ⟨id, page⟩ ver) (used ⟨id, page⟩ c (hit S)))).2 = true := by
            rw [getR_used ⟨id, page⟩ c S.ents _ hke]
          have hk1 : keys (used ⟨id, page⟩ c (hit S)).ents = ys := hys.symm
          have hyl : ys.length ≤ 8 := by rw [hys, keys_length]; exact hsm
          clear hys hke hc hv
          rw [hr1, hs1] at hg1
          refine hg1.mono ?_
          rintro e W5 ⟨rfl, F5, hP5, hF5, hk5, hb5⟩
          have HP5 := Aside0.mk hP5
          have HN5 := Aside0.mk hfn5
          have HF5 := Aside0.mk hP5.range
          have HB5 := Aside0.mk (HB.out.trans hb5)
          have hs5 := hb5.size
          clear hP5 hF5 hk5 hb5 hg1 HP HB
          go_wp2_with fail
          refine (places_calls W5 _ _ _ _ HP5.out).mono ?_
          rintro e W6 ⟨v6, rfl, hR6, hb6⟩
          rw [hk1] at hR6
          obtain ⟨A6, c6, hv6, _, _⟩ := Kd.R_reads hR6
          subst hv6
          have HR6 := Aside0.mk hR6
          have HP6 := Aside0.mk (HP5.out.below hb6)
          have HB6 := Aside0.mk (HB5.out.trans (hb6.mono HB5.out.size))
          have hs6 := hb6.size
          clear hb6 hR6 HP5 HB5
          go_wp2_with fail
          have hin := inv_calls W6 W.heap.size g F5 _ ⟨id, page⟩ ver HP6.out
          rw [hrem] at hin
          refine hin.mono ?_
          rintro e W7 ⟨rfl, F7, hP7, hF7, hk7, hb7⟩
          have HP7 := Aside0.mk hP7
          have HF7 := Aside0.mk hF7
          have HR7 := Aside0.mk (R_kept HR6.out hk7 (fun k h1 h2 h3 z => by have := (HF5.out k z).2; omega))
          have HB7 := Aside0.mk (HB6.out.trans hb7)
          have hs7 := hb7.size
          clear hP7 hF7 hk7 hb7 hin HP6 HR6 HB6
          go_wp2_with fail
          refine (places_calls W7 _ _ _ _ HP7.out).mono ?_
          rintro e W8 ⟨v8, rfl, hR8, hb8⟩
          rw [hks] at hR8
          obtain ⟨A8, c8, hv8, _, _⟩ := Kd.R_reads hR8
          subst hv8
          have HR8 := Aside0.mk hR8
          have HR7' := Aside0.mk (Kd.R_below HR7.out hb8)
          have HP8 := Aside0.mk (HP7.out.below hb8)
          have HB8 := Aside0.mk (HB7.out.trans (hb8.mono HB7.out.size))
          have HF7' := Aside0.mk HP7.out.range
          have hs8 := hb8.size
          clear hb8 hR8 HP7 HB7 HR7
          go_wp2_with fail
          have hg2 := get_calls W8 W.heap.size g (l.length + 1) F7 _ ⟨id, page⟩ HP8.out (HN5.out.forgot _) (by omega)
          rw [hst] at hg2
          refine hg2.mono ?_
          rintro e W9 ⟨rfl, F9, _, _, hk9, hb9⟩
          have HR9 := Aside0.mk (R_kept HR8.out hk9 (fun k h1 h2 h3 z => by have := (HF7'.out k z).2; omega))
          have HQ9 := Aside0.mk (R_kept HR7'.out hk9 (fun k h1 h2 h3 z => (HF7.out k z).elim (fun y => by have h5 := (HF5.out k y).2; have h6 := h1.2.1; omega) (fun y => by have h6 := h1.2.2; omega)))
          have HB9 := Aside0.mk (HB8.out.trans hb9)
          have HC9 := Aside0.mk (Kd.R_reads' HR9.out).2.2
          have HC8 := Aside0.mk (Kd.R_reads' HQ9.out).2.2
          clear hk9 hb9 hg2 HR8 HR7' HP8 HB8 HR9 HQ9
          go_wp2_with fail
          obtain ⟨W10, hW10⟩ : ∃ W10, W10 = W9 := ⟨_, rfl⟩
          subst hW10
          go_loopg [108] ys.length (fun gg s108 w' => ∃ (j : Nat), s108 = .int .i64 j ∧ j ≤ ys.length ∧ ys.length - j ≤ gg ∧ Aside0 (Below W10.heap.size W10 w'))
          case atStart => exact ⟨0, by go_num, Nat.zero_le _, by omega, ⟨Below.refl _ _⟩⟩
          case round =>
            obtain ⟨j, rfl, hj2, hgj2, HBw⟩ := hrel
            by_cases hjl : j < ys.length
            · have hjz : (j : Int) < (ys.length : Int) := by omega
              obtain ⟨ad, e, q0, q1⟩ := at_T40 (Kd.C_below HC9.out HBw.out) (j : Int) (by omega) hjz
              obtain ⟨ad', e', r0, r1⟩ := at_T40 (Kd.C_below HC8.out HBw.out) (j : Int) (by omega) hjz
              rw [rdT40_at ys j hjl] at q0 q1 r0 r1
              cases e
              cases e'
              rw [Int.toNat_natCast] at q0 q1 r0 r1
              go_wp2_with fail
              go_quiet (fail)
              go_wp2_with fail
              go_roundg (ys.length - (j + 1))
              case measure => omega
              case rel => exact ⟨j + 1, by go_num, by omega, Nat.le_refl _, ⟨below_drewN HBw.out _⟩⟩
            · obtain rfl : j = ys.length := by omega
              go_wp2_with fail
              go_ret
              exact ⟨rfl, HB9.out.trans (HBw.out.mono HB9.out.size)⟩

end Go.Proofs.Ytlfmlmnpbcidnaa.PG

/- The walk of BufferDrops. -/
import Derived.Test.YtlfmlmnpbcidnaaShare
import Derived.BigQuiet

namespace Go.Proofs.Ytlfmlmnpbcidnaa.PG
open Go.RowKit Go.Proofs.YtlfmlmnpbcidnaaW.PrintWords Go.Proofs.YtlfmlmnpbcidnaaW.PrintLast Go.Proofs.YtlfmlmnpbcidnaaW.PrintMore
set_option linter.unusedVariables false
set_option linter.unusedSimpArgs false
/-! ### BufferDrops -/
attribute [local go_sem high] eqA40
set_option maxHeartbeats 4000000 in
set_option maxRecDepth 100000 in
theorem drops_calls (W : World) (u : Int) (u0 : 0 ≤ u) (u1 : u < 256) (a : Option Addr) (cap : Nat) (l : List S38) (hC : Kd.C k38 W a l.length l) (hcap : l.length ≤ cap) (hm : cap ≤ maxLen) (id : Int) :
    Calls Try.prog 7 #[.int .u8 u, .slice a l.length cap, .int .i64 id] W fun e W' => e = .returned (.bool true) ∧ Below W.heap.size W W' := by
  have HC := Aside0.mk hC
  clear hC
  go_enter Try.func7, Try.ntmps7
  go_wp2_with fail
  refine (awake_calls W).mono ?_
  rintro e W1 ⟨rfl, hb1⟩
  have HB1 := Aside0.mk hb1
  have HC1 := Aside0.mk (Kd.C_below HC.out hb1)
  clear hb1
  go_wp2_with fail
  refine (few_calls W1 a cap l HC1.out hcap hm).mono ?_
  rintro e W2 ⟨r, rfl, hr, hb2⟩
  cases r with
  | false =>
    have HB2 := Aside0.mk (HB1.out.trans (hb2.mono HB1.out.size))
    clear hb2 hr HC1
    go_wp2_with fail
    go_ret
    exact ⟨rfl, HB2.out⟩
  | true =>
  have hlen := hr rfl
  have HB2 := Aside0.mk (HB1.out.trans (hb2.mono HB1.out.size))
  clear hb2 hr HC1 HB1
  go_wp2_with fail
  refine (start_calls W2 u u0 u1).mono ?_
  rintro e W3 ⟨rfl, hP3, hb3⟩
  have HB3 := Aside0.mk (HB2.out.trans (hb3.mono HB2.out.size))
  have HP3 := Aside0.mk (hP3.lower HB2.out.size)
  have HF3 := Aside0.mk (fine0 (1 + u % 8) (by omega) (by omega))
  have hsz3 : W.heap.size ≤ W3.heap.size := HB3.out.size
  obtain ⟨g, hg⟩ : ∃ g, g = W2.heap.size + 1 := ⟨_, rfl⟩
  rw [← hg] at HP3
  rw [← hg]
  obtain ⟨F3, hF3⟩ : ∃ F3 : Nat → Prop, F3 = (fun k => k = W2.heap.size ∨ k = g) := ⟨_, rfl⟩
  rw [← hF3] at HP3
  clear hb3 hP3 HB2 hg hF3
  go_wp2_with fail
  go_loopg [31] l.length (fun gg s31 wr => ∃ (i : Nat) (F : Nat → Prop), s31 = .int .i64 i ∧ i ≤ l.length ∧ l.length - i ≤ gg ∧ Aside0 (PoolIs wr W.heap.size g F (runS (l.take i) ⟨1 + u % 8, [], 0, 0⟩)) ∧ Aside0 (Fine i (runS (l.take i) ⟨1 + u % 8, [], 0, 0⟩)) ∧ Aside0 (Below W.heap.size W wr))
  case atStart => exact ⟨0, F3, by go_num, Nat.zero_le _, by omega, HP3, HF3, HB3⟩
  case round =>
    obtain ⟨i, F, rfl, hi, hgg, HP, HF, HB⟩ := hrel
    have hszr : W.heap.size ≤ wr.heap.size := HB.out.size
    by_cases hlt : i < l.length
    · have hltz : (i : Int) < (l.length : Int) := by omega
      obtain ⟨ad, e, h0, h1, h2, h3, h4⟩ := at_T38 (Kd.C_below HC.out HB.out) (i : Int) (by omega) hltz
      rw [rdT38_at l i hlt] at h0 h1 h2 h3 h4
      cases e
      rw [Int.toNat_natCast] at h0 h1 h2 h3 h4
      have HD := Aside0.mk (do_round W wr g i F _ l hlt (by omega) HP.out HF.out HB.out)
      go_wp2_with fail
      refine HD.out.mono ?_
      rintro e W4 ⟨rfl, F', hP4, hF4, hB4⟩
      have HP4 := Aside0.mk hP4
      have HF4 := Aside0.mk hF4
      have HB4 := Aside0.mk hB4
      clear hP4 hF4 hB4 HD HP HF HB h0 h1 h2 h3 h4
      go_wp2_with fail
      go_roundg (l.length - (i + 1))
      case measure => omega
      case rel => exact ⟨i + 1, F', by go_num, by omega, Nat.le_refl _, HP4, HF4, HB4⟩
    · obtain rfl : i = l.length := by omega
      rw [List.take_length] at HP HF
      obtain ⟨S, hS⟩ : ∃ S, S = runS l ⟨1 + u % 8, [], 0, 0⟩ := ⟨_, rfl⟩
      rw [← hS] at HP HF
      clear hS HP3 HF3 HB3
      obtain ⟨W4, hW4⟩ : ∃ W4, W4 = wr := ⟨_, rfl⟩
      subst hW4
      go_wp2_with fail
      have hb4 := below_alloc (Below.refl W4.heap.size W4) (.cells #[] 40)
      have hs4 : (W4.alloc (.cells #[] 40)).heap.size = W4.heap.size + 1 := by simp
      have HO4 := Aside0.mk (show Kd.R k40 40 (W4.alloc (.cells #[] 40)) W.heap.size (fun k => k = W4.heap.size) (.slice (some ⟨W4.heap.size, 0, none⟩) 0 0) [] from RowAt.toR (xs := []) ⟨#[], blk_new _ _, rfl, Nat.le_refl _, fun j h => by cases h⟩ hszr (Nat.zero_le _) rfl)
      refine (places_calls _ _ _ _ _ (HP.out.below hb4)).mono ?_
      rintro e W5 ⟨v, rfl, hR5, hb5⟩
      obtain ⟨A5, c5, hv, hle5, hC5⟩ := Kd.R_reads hR5
      subst hv
      have HR5 := Aside0.mk hR5
      have hkl := keys_length S.ents
      have hsm := HF.out.small
      obtain ⟨xs, hxs⟩ : ∃ xs, xs = keys S.ents := ⟨_, rfl⟩
      rw [← hxs] at HR5 hkl hle5
      rw [← hxs]
      have HXS := Aside0.mk hxs
      have hs5 : W4.heap.size + 1 ≤ W5.heap.size := by have := hb5.size; omega
      have HO5 := Aside0.mk (Kd.R_below HO4.out hb5)
      have HK5 := Aside0.mk ((Kept.of_below hb4 (fun _ => False)).below hb5)
      have HB5 := Aside0.mk ((HB.out.trans (hb4.mono hszr)).trans (hb5.mono (by omega)))
      clear hb4 hb5 hR5 hC5 HO4 hxs
      go_wp2_with fail
      go_loopg [11, 43] xs.length (fun gg s11 s43 w' => ∃ (j : Nat) (A' : Option Addr) (c' : Nat) (ys : List S40), s11 = .slice A' ys.length c' ∧ s43 = .int .i64 j ∧ j ≤ xs.length ∧ xs.length - j ≤ gg ∧ Aside0 (ys = (xs.take j).filter (fun a => !(a.f0 == id))) ∧ Aside0 (Kd.R k40 40 w' W.heap.size (fun k => k = W4.heap.size ∨ W5.heap.size ≤ k) (.slice A' ys.length c') ys) ∧ Aside0 (Kept W5 w' (fun k => k = W4.heap.size)) ∧ Aside0 (Below W.heap.size W w'))
      case atStart => exact ⟨0, _, 0, [], rfl, by go_num, Nat.zero_le _, by omega, ⟨rfl⟩, ⟨Kd.R_mono HO5.out (fun k hk => Or.inl hk)⟩, ⟨Kept.refl _ _⟩, HB5⟩
      case round =>
        obtain ⟨j, A', c', ys, rfl, rfl, hj, hgj, HY, HR, HK, HBj⟩ := hrel
        have hszj : W5.heap.size ≤ wr.heap.size := HK.out.1
        by_cases hjl : j < xs.length
        · have hjz : (j : Int) < (xs.length : Int) := by omega
          obtain ⟨_, _, hCj⟩ := Kd.R_reads' (R_kept HR5.out HK.out (fun k h1 h2 h3 z => by omega))
          obtain ⟨ad, e, q0, q1⟩ := at_T40 hCj (j : Int) (by omega) hjz
          rw [rdT40_at xs j hjl] at q0 q1
          cases e
          rw [Int.toNat_natCast] at q0 q1
          have HCUT := Aside0.mk (filter_snoc (fun a => !(a.f0 == id)) xs j hjl)
          have hnel : ys.length ≤ 8 := by rw [HY.out]; exact Nat.le_trans (List.length_filter_le _ _) (by rw [List.length_take]; omega)
          cases hp : (xs[j].f0 == id) with
          | true =>
            have HPT := Aside0.mk hp
            clear hp
            have hp := HPT.out
            go_wp2_with fail
            go_roundg (xs.length - (j + 1))
            case measure => omega
            case rel =>
              refine ⟨j + 1, A', c', ys, rfl, by go_num, by omega, Nat.le_refl _, ⟨?_⟩, ⟨Kd.R_alloc HR.out _⟩, ⟨HK.out.alloc _⟩, ⟨HBj.out.trans ((below_alloc (Below.refl _ _) _).mono (by omega))⟩⟩
              rw [HCUT.out, HPT.out, ← HY.out]; simp
          | false =>
            have HPT := Aside0.mk hp
            clear hp
            have hp := HPT.out
            go_wp2_with (at_builtin; refine Kd.R_append k40 (w0 := W) W.heap.size rfl (.tmp 51) (.tmp 53) 28 40 (.agg #[.int .i64 0, .int .i64 0]) 16 rfl Try.underlying28 info40 rfl (by decide) (by omega) _ ys xs[j] [.int .i64 xs[j].f0, .int .i64 xs[j].f1] (fun k => k = W4.heap.size ∨ W5.heap.size ≤ k) (fun _ => False) rfl (by simp only [size_alloc1]; rfl) (k40_mkM _ _ _ _) (fun _ h => h.elim) (fun k hk => Or.inr (by simp at hk; omega)) (Kd.R_alloc HR.out _) (HBj.out.trans ((below_alloc (Below.refl _ _) _).mono (by omega))) (by simp; omega) (by omega) ?_; intro v1 w1 hR1 hb1 hg1 hat1)
            have hs1 := hb1.size
            have ha1 := size_alloc1 wr (.cells #[.int .i64 xs[j].f0, .int .i64 xs[j].f1] 40)
            have HK1 := Aside0.mk ((HK.out.alloc (.cells #[.int .i64 xs[j].f0, .int .i64 xs[j].f1] 40)).of_grown hg1 (fun k hk => HR.out.1 k hk))
            have HY1 := Aside0.mk (show ys ++ [xs[j]] = (xs.take (j + 1)).filter (fun a => !(a.f0 == id)) by rw [HCUT.out, HPT.out, ← HY.out]; simp)
            obtain ⟨A1, c1, hv1, hle1, _⟩ := Kd.R_reads hR1
            subst hv1
            have HR1 := Aside0.mk hR1
            have HB1 := Aside0.mk hb1
            clear hR1 hb1 hg1 hat1 HK HY HR HBj HCUT
            go_wp2_with fail
            go_roundg (xs.length - (j + 1))
            case measure => omega
            case rel => exact ⟨j + 1, A1, c1, ys ++ [xs[j]], by first | rfl | simp, by go_num, by omega, Nat.le_refl _, HY1, HR1, HK1, HB1⟩
        · obtain rfl : j = xs.length := by omega
          rw [List.take_length, HXS.out, keys_hasId] at HY
          have HKW := Aside0.mk (HK5.out.then_ HK.out (fun k hk => Or.inr (by omega)))
          have HP6 := Aside0.mk (HP.out.kept HKW.out)
          go_wp2_with fail
          have hF4 := HP.out.range
          have HF4 := Aside0.mk hF4
          have hyl : (keepEnts (hasId id) S.ents).length = ys.length := by rw [HY.out, keys_length]
          have hnel : ys.length ≤ 8 := by rw [← hyl]; exact Nat.le_trans (List.length_filter_le _ _) hsm
          refine (len_calls wr _ _ _ _ HP6.out).mono ?_
          rintro e W7 ⟨rfl, hb7⟩
          have HP7 := Aside0.mk (HP6.out.below hb7)
          have HR7 := Aside0.mk (Kd.R_below HR.out hb7)
          have HB7 := Aside0.mk (HBj.out.trans (hb7.mono HBj.out.size))
          have hs7 := hb7.size
          clear hF4 hb7 HP6 HR HBj HK HKW HP HB5 HK5 HO5 HR5 HB
          go_wp2_with fail
          have hdr := drop_calls W7 W.heap.size g F S id HP7.out
          rw [hyl] at hdr
          refine hdr.mono ?_
          rintro e W8 ⟨rfl, F8, hP8, hF8, hk8, hb8⟩
          have HP8 := Aside0.mk hP8
          have HF8 := Aside0.mk hF8
          have HR8 := Aside0.mk (R_kept HR7.out hk8 (fun k h1 h2 h3 z => by have := (HF4.out k z).2; omega))
          have HB8 := Aside0.mk (HB7.out.trans hb8)
          have hs8 := hb8.size
          clear hP8 hF8 hk8 hb8 hdr HP7 HR7 HB7
          go_wp2_with fail
          have hdr := drop_calls W8 W.heap.size g F8 _ id HP8.out
          have e8 : (forgot (hasId id) S).ents = keepEnts (hasId id) S.ents := rfl
          rw [e8, keep_keep, hyl, Int.sub_self] at hdr
          refine hdr.mono ?_
          rintro e W9 ⟨rfl, F9, hP9, hF9, hk9, hb9⟩
          have HP9 := Aside0.mk hP9
          have HR9 := Aside0.mk (R_kept HR8.out hk9 (fun k h1 h2 h3 z => (HF8.out k z).elim (fun y => by have h5 := (HF4.out k y).2; have h6 := h1.1; omega) (fun y => by have h6 := h1.2.2; omega)))
          have HB9 := Aside0.mk (HB8.out.trans hb9)
          have hs9 := hb9.size
          clear hP9 hF9 hk9 hb9 hdr HP8 HR8 HB8 e8
          go_wp2_with fail
          refine (places_calls W9 _ _ _ _ HP9.out).mono ?_
          rintro e W10 ⟨v, rfl, hR10, hb10⟩
          have e10 : keys (forgot (hasId id) (forgot (hasId id) S)).ents = ys := by show keys (keepEnts (hasId id) (keepEnts (hasId id) S.ents)) = ys; rw [keep_keep, HY.out]
          rw [e10] at hR10
          obtain ⟨A9, c9, hv9, _, hC9⟩ := Kd.R_reads hR10
          subst hv9
          have HC9 := Aside0.mk hC9
          have HC8 := Aside0.mk (Kd.R_reads' (Kd.R_below HR9.out hb10)).2.2
          have HB10 := Aside0.mk (HB9.out.trans (hb10.mono HB9.out.size))
          clear hR10 hb10 hC9 HP9 HR9 HB9 e10 hs9
          go_wp2_with fail
          obtain ⟨W11, hW11⟩ : ∃ W11, W11 = wr := ⟨_, rfl⟩
          subst hW11
          go_loopg [81] ys.length (fun gg s81 w' => ∃ (j : Nat), s81 = .int .i64 j ∧ j ≤ ys.length ∧ ys.length - j ≤ gg ∧ Aside0 (Below W10.heap.size W10 w'))
          case atStart => exact ⟨0, by go_num, Nat.zero_le _, by omega, ⟨Below.refl _ _⟩⟩
          case round =>
            obtain ⟨j, rfl, hj2, hgj2, HBw⟩ := hrel
            by_cases hjl : j < ys.length
            · have hjz : (j : Int) < (ys.length : Int) := by omega
              obtain ⟨ad, e, q0, q1⟩ := at_T40 (Kd.C_below HC9.out HBw.out) (j : Int) (by omega) hjz
              obtain ⟨ad', e', r0, r1⟩ := at_T40 (Kd.C_below HC8.out HBw.out) (j : Int) (by omega) hjz
              rw [rdT40_at ys j hjl] at q0 q1 r0 r1
              cases e
              cases e'
              rw [Int.toNat_natCast] at q0 q1 r0 r1
              go_wp2_with fail
              go_quiet (fail)
              go_wp2_with fail
              go_roundg (ys.length - (j + 1))
              case measure => omega
              case rel => exact ⟨j + 1, by go_num, by omega, Nat.le_refl _, ⟨below_drewN HBw.out _⟩⟩
            · obtain rfl : j = ys.length := by omega
              go_wp2_with fail
              go_ret
              exact ⟨rfl, HB10.out.trans (HBw.out.mono HB10.out.size)⟩
end Go.Proofs.Ytlfmlmnpbcidnaa.PG

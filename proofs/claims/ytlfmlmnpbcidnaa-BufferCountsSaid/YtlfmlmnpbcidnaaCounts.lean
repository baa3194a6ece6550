/- The walk of BufferCounts. -/
import Derived.Test.YtlfmlmnpbcidnaaKeeps
import Derived.BigQuiet

namespace Go.Proofs.Ytlfmlmnpbcidnaa.PG
open Go.RowKit Go.Proofs.YtlfmlmnpbcidnaaW.PrintWords Go.Proofs.YtlfmlmnpbcidnaaW.PrintLast Go.Proofs.YtlfmlmnpbcidnaaW.PrintMore
set_option linter.unusedVariables false
set_option linter.unusedSimpArgs false
/-! ### BufferCounts -/
attribute [local go_sem high] eqA40
theorem hits_do (o : S38) (S : PoolS) (h : o.f0 ≠ 0) : (doS o S).hits = S.hits ∧ (doS o S).miss = S.miss := by
  unfold doS
  rw [if_neg h]
  split
  · exact ⟨rfl, rfl⟩
  · split
    · exact ⟨rfl, rfl⟩
    · split <;> exact ⟨rfl, rfl⟩
theorem mem_look (a : S40) (S : PoolS) : decide (a ∈ keys S.ents) = (look a S.ents).isSome := by
  cases hc : look a S.ents with
  | none =>
    refine decide_eq_false (fun h => ?_)
    obtain ⟨c, h1, _⟩ := look_mem _ _ h
    rw [hc] at h1; cases h1
  | some c => exact decide_eq_true (look_in hc)
theorem mem_snoc (a : S40) (xs : List S40) (j : Nat) (h : j < xs.length) : decide (a ∈ xs.take (j + 1)) = (decide (a ∈ xs.take j) || decide (xs[j] = a)) := by
  rw [List.take_succ_eq_append_getElem h]
  by_cases h1 : a ∈ xs.take j
  · rw [decide_eq_true h1, decide_eq_true (List.mem_append_left _ h1)]; rfl
  · rw [decide_eq_false h1, Bool.false_or]
    by_cases h2 : xs[j] = a
    · rw [decide_eq_true h2, decide_eq_true (List.mem_append_right _ (by rw [h2]; exact List.mem_singleton.2 rfl))]
    · rw [decide_eq_false h2, decide_eq_false (fun h => (List.mem_append.1 h).elim h1 (fun z => h2 (List.mem_singleton.1 z).symm))]

set_option maxHeartbeats 4000000 in
set_option maxRecDepth 100000 in
theorem counts_calls (W : World) (u : Int) (u0 : 0 ≤ u) (u1 : u < 256) (a : Option Addr) (cap : Nat) (l : List S38) (hC : Kd.C k38 W a l.length l) (hcap : l.length ≤ cap) (hm : cap ≤ maxLen) :
    Calls Try.prog 8 #[.int .u8 u, .slice a l.length cap] W fun e W' => e = .returned (.bool true) ∧ Below W.heap.size W W' := by
  have HC := Aside0.mk hC
  clear hC
  go_enter Try.func8, Try.ntmps8
  go_wp2_with fail
  refine (awake_calls W).mono ?_
  rintro e W1 ⟨rfl, hb1⟩
  have HB1 := Aside0.mk hb1
  have HC1 := Aside0.mk (Kd.C_below HC.out hb1)
  clear hb1
  go_wp2_with fail
  refine (few_calls W1 a cap l HC1.out hcap hm).mono ?_
  rintro e W2 ⟨r, rfl, hr, hb2⟩
  cases r with
  | false =>
    have HB2 := Aside0.mk (HB1.out.trans (hb2.mono HB1.out.size))
    clear hb2 hr HC1
    go_wp2_with fail
    go_ret
    exact ⟨rfl, HB2.out⟩
  | true =>
  have hlen := hr rfl
  have HB2 := Aside0.mk (HB1.out.trans (hb2.mono HB1.out.size))
  clear hb2 hr HC1 HB1
  go_wp2_with fail
  refine (start_calls W2 u u0 u1).mono ?_
  rintro e W3 ⟨rfl, hP3, hb3⟩
  have HB3 := Aside0.mk (HB2.out.trans (hb3.mono HB2.out.size))
  have HP3 := Aside0.mk (hP3.lower HB2.out.size)
  have HF3 := Aside0.mk (fine0 (1 + u % 8) (by omega) (by omega))
  have hsz3 : W.heap.size ≤ W3.heap.size := HB3.out.size
  obtain ⟨g, hg⟩ : ∃ g, g = W2.heap.size + 1 := ⟨_, rfl⟩
  rw [← hg] at HP3
  rw [← hg]
  obtain ⟨F3, hF3⟩ : ∃ F3 : Nat → Prop, F3 = (fun k => k = W2.heap.size ∨ k = g) := ⟨_, rfl⟩
  rw [← hF3] at HP3
  clear hb3 hP3 HB2 hg hF3
  go_wp2_with fail
  go_loopg [7, 8, 33] l.length (fun gg s7 s8 s33 wr => ∃ (i : Nat) (F : Nat → Prop) (S : PoolS), s7 = .int .i64 S.hits ∧ s8 = .int .i64 S.miss ∧ s33 = .int .i64 i ∧ i ≤ l.length ∧ l.length - i ≤ gg ∧ Aside0 (PoolIs wr W.heap.size g F S) ∧ Aside0 (Fine i S) ∧ Aside0 (Below W.heap.size W wr))
  case atStart => exact ⟨0, F3, ⟨1 + u % 8, [], 0, 0⟩, by go_num, by go_num, by go_num, Nat.zero_le _, by omega, HP3, HF3, HB3⟩
  case round =>
    obtain ⟨i, F, S, rfl, rfl, rfl, hi, hgg, HP, HF, HB⟩ := hrel
    have hszr : W.heap.size ≤ wr.heap.size := HB.out.size
    have hhit := HF.out.h0
    have hmis := HF.out.m0
    by_cases hlt : i < l.length
    · have hltz : (i : Int) < (l.length : Int) := by omega
      obtain ⟨ad, e, h0, h1, h2, h3, h4⟩ := at_T38 (Kd.C_below HC.out HB.out) (i : Int) (by omega) hltz
      rw [rdT38_at l i hlt] at h0 h1 h2 h3 h4
      cases e
      rw [Int.toNat_natCast] at h0 h1 h2 h3 h4
      obtain ⟨o, ho⟩ : ∃ o, o = l[i] := ⟨_, rfl⟩
      rw [← ho] at h0 h1 h2 h3 h4
      clear ho
      obtain ⟨w4, hw4⟩ : ∃ w4, w4 = wr := ⟨_, rfl⟩
      subst hw4
      have hbx := below_alloc (Below.refl w4.heap.size w4) (.cells #[.int .i64 o.f0, .int .i64 o.f1, .int .i64 o.f2, .int .i64 o.f3, .string o.f4] 38)
      have HBX := Aside0.mk hbx
      have HX := Aside0.mk (blk_new w4 (.cells #[.int .i64 o.f0, .int .i64 o.f1, .int .i64 o.f2, .int .i64 o.f3, .string o.f4] 38))
      have hsx := size_alloc1 w4 (.cells #[.int .i64 o.f0, .int .i64 o.f1, .int .i64 o.f2, .int .i64 o.f3, .string o.f4] 38)
      clear hbx
      by_cases hk0 : o.f0 = 0
      · have hd0 : (o.f0 == 0) = true := by rw [hk0]; rfl
        clear hk0
        go_wp2_with fail
        refine (places_calls _ _ _ _ _ (HP.out.below HBX.out)).mono ?_
        rintro e W5 ⟨v5, rfl, hR5, hb5⟩
        obtain ⟨xs, hxs⟩ : ∃ xs, xs = keys S.ents := ⟨_, rfl⟩
        rw [← hxs] at hR5
        have HXS := Aside0.mk hxs
        have hxl : xs.length ≤ 8 := by rw [hxs, keys_length]; exact HF.out.small
        obtain ⟨A5, c5, hv5, _, hC5⟩ := Kd.R_reads hR5
        subst hv5
        have HC5 := Aside0.mk hC5
        have HP5 := Aside0.mk ((HP.out.below HBX.out).below hb5)
        have HB5 := Aside0.mk ((HB.out.trans (HBX.out.mono hszr)).trans (hb5.mono (by omega)))
        have hx5 := blk_below HX.out hb5
        have HX5 := Aside0.mk hx5
        have hs5 : w4.heap.size + 1 ≤ W5.heap.size := by have := hb5.size; omega
        clear hR5 hb5 hC5 hx5 hxs HBX HX HP HB h0 h1 h2 h3 h4
        obtain ⟨a2, ha2⟩ : ∃ a2 : S40, a2 = ⟨o.f1, o.f2⟩ := ⟨_, rfl⟩
        go_wp2_with fail
        go_loopg [11, 46] xs.length (fun gg s11 s46 w' => ∃ (j : Nat), s11 = .bool (decide (a2 ∈ xs.take j)) ∧ s46 = .int .i64 j ∧ j ≤ xs.length ∧ xs.length - j ≤ gg ∧ Aside0 (Below W5.heap.size W5 w'))
        case atStart => exact ⟨0, rfl, by go_num, Nat.zero_le _, by omega, ⟨Below.refl _ _⟩⟩
        case round =>
          obtain ⟨j, rfl, rfl, hj, hgj, HBw⟩ := hrel
          have hszj : W5.heap.size ≤ wr.heap.size := HBw.out.size
          have hlw : w4.heap.size < wr.heap.size := by omega
          have hx := blk_below HX5.out HBw.out
          have x1 : wr.cell? ⟨w4.heap.size, 1, none⟩ = some (.int .i64 o.f1) := by rw [blk_cell hx]; rfl
          have x2 : wr.cell? ⟨w4.heap.size, 2, none⟩ = some (.int .i64 o.f2) := by rw [blk_cell hx]; rfl
          clear hx
          by_cases hjl : j < xs.length
          · have hjz : (j : Int) < (xs.length : Int) := by omega
            obtain ⟨ad, e, q0, q1⟩ := at_T40 (Kd.C_below HC5.out HBw.out) (j : Int) (by omega) hjz
            rw [rdT40_at xs j hjl] at q0 q1
            cases e
            rw [Int.toNat_natCast] at q0 q1
            have HSN := Aside0.mk (mem_snoc a2 xs j hjl)
            have HEQ := Aside0.mk (show (xs[j].f0 == o.f1 && (xs[j].f1 == o.f2)) = decide (xs[j] = a2) by rw [ha2]; exact beqP xs[j] ⟨o.f1, o.f2⟩)
            have HA2 := Aside0.mk ha2
            clear ha2
            cases hb : decide (a2 ∈ xs.take j) with
            | true =>
              rw [hb] at HSN
              clear hb
              go_wp2_with fail
              go_roundg (xs.length - (j + 1))
              case measure => omega
              case rel => exact ⟨j + 1, by rw [HSN.out]; rfl, by go_num, by omega, Nat.le_refl _, ⟨HBw.out.trans ((below_alloc (Below.refl _ _) _).mono (by omega))⟩⟩
            | false =>
              rw [hb] at HSN
              clear hb
              go_wp2_with fail
              go_roundg (xs.length - (j + 1))
              case measure => omega
              case rel => exact ⟨j + 1, by rw [HSN.out, ← HEQ.out]; rfl, by go_num, by omega, Nat.le_refl _, ⟨HBw.out.trans ((below_alloc (Below.refl _ _) _).mono (by omega))⟩⟩
          · obtain rfl : j = xs.length := by omega
            rw [List.take_length, HXS.out]
            rw [mem_look]
            have hg := get_calls wr W.heap.size g i F S a2 (HP5.out.below HBw.out) HF.out (by omega)
            have HBr := Aside0.mk (HB5.out.trans (HBw.out.mono HB5.out.size))
            have HFi := Aside0.mk (HF.out.get a2)
            have hgs : getS a2 S = match look a2 S.ents with | some c => used a2 c (hit S) | none => missed S := rfl
            cases hc : look a2 S.ents with
            | none =>
              have hr1 : getR a2 S = (⟨⟨#[]⟩, 0⟩, false) := by unfold getR; rw [hc]
              rw [hc] at hgs
              rw [hr1, hgs] at hg
              rw [hgs] at HFi
              rw [ha2] at hg HFi
              have HG := Aside0.mk hg
              clear hc hr1 hgs hg ha2
              go_wp2_with fail
              refine HG.out.mono ?_
              rintro e W6 ⟨rfl, F6, hP6, _, _, hb6⟩
              have HP6 := Aside0.mk hP6
              have HB6 := Aside0.mk (HBr.out.trans hb6)
              clear hP6 hb6 HG HBr HP5 HB5
              go_wp2_with fail
              go_roundg (l.length - (i + 1))
              case measure => omega
              case rel => exact ⟨i + 1, F6, missed S, rfl, by first | rfl | go_num, by go_num, by omega, Nat.le_refl _, HP6, HFi, HB6⟩
            | some c =>
              have hr1 : getR a2 S = (c, true) := by unfold getR; rw [hc]
              rw [hc] at hgs
              rw [hr1, hgs] at hg
              rw [hgs] at HFi
              rw [ha2] at hg HFi
              have HG := Aside0.mk hg
              clear hc hr1 hgs hg ha2
              go_wp2_with fail
              refine HG.out.mono ?_
              rintro e W6 ⟨rfl, F6, hP6, _, _, hb6⟩
              have HP6 := Aside0.mk hP6
              have HB6 := Aside0.mk (HBr.out.trans hb6)
              clear hP6 hb6 HG HBr HP5 HB5
              go_wp2_with fail
              go_roundg (l.length - (i + 1))
              case measure => omega
              case rel => exact ⟨i + 1, F6, used ⟨o.f1, o.f2⟩ c (hit S), by first | rfl | go_num, rfl, by go_num, by omega, Nat.le_refl _, HP6, HFi, HB6⟩
      · have hd0 : (o.f0 == 0) = false := beq_eq_false_iff_ne.2 hk0
        have hhd := hits_do o S hk0
        have HD := Aside0.mk (do_roundF W w4 g i F S o (by omega) HP.out HF.out HB.out)
        have HFD := Aside0.mk (HF.out.do o)
        have HHD := Aside0.mk hhd
        clear hk0 hhd
        go_wp2_with fail
        refine HD.out.mono ?_
        rintro e W5 ⟨rfl, F5, hP5, hb5, _, _⟩
        have HP5 := Aside0.mk hP5
        have HB5 := Aside0.mk hb5
        clear hP5 hb5 HD HBX HX HP HB h0 h1 h2 h3 h4
        go_wp2_with fail
        go_roundg (l.length - (i + 1))
        case measure => omega
        case rel => exact ⟨i + 1, F5, doS o S, by rw [HHD.out.1], by rw [HHD.out.2], by go_num, by omega, Nat.le_refl _, HP5, HFD, HB5⟩
    · obtain rfl : i = l.length := by omega
      go_wp2_with fail
      refine (hits_calls _ _ _ _ _ HP.out).mono ?_
      rintro e W5 ⟨rfl, hb5⟩
      have HB5 := Aside0.mk (HB.out.trans (hb5.mono HB.out.size))
      clear hb5
      go_wp2_with fail
      go_ret
      exact ⟨rfl, HB5.out⟩
end Go.Proofs.Ytlfmlmnpbcidnaa.PG

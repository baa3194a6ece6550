/- The walk of BufferRecent. -/
import Derived.Test.YtlfmlmnpbcidnaaKeeps
import Derived.BigQuiet

namespace Go.Proofs.Ytlfmlmnpbcidnaa.PG
open Go.RowKit Go.Proofs.YtlfmlmnpbcidnaaW.PrintWords Go.Proofs.YtlfmlmnpbcidnaaW.PrintLast Go.Proofs.YtlfmlmnpbcidnaaW.PrintMore
set_option linter.unusedVariables false
set_option linter.unusedSimpArgs false
/-! ### BufferRecent: the pool's places are the last ones of those that were used -/
attribute [local go_sem high] eqA40
attribute [local go_sem] max2_int min2_int max_two min_two
def lastN (n : Nat) (xs : List S40) : List S40 := xs.drop (xs.length - n)
def but (p : S40) (xs : List S40) : List S40 := xs.filter (fun q => !decide (q = p))
theorem keys_isAt (p : S40) : ∀ es : Ents, keys (keepEnts (isAt p) es) = but p (keys es)
  | [] => rfl
  | e :: es => by
    show keys ((e :: es).filter _) = (e.1 :: keys es).filter _
    rw [List.filter_cons, List.filter_cons]
    have ih := keys_isAt p es
    unfold keepEnts but at ih
    by_cases h : e.1 = p
    · rw [if_neg (by simp [isAt, h]), if_neg (by simp [h])]; exact ih
    · rw [if_pos (by simp [isAt, h]), if_pos (by simp [h])]
      show e.1 :: keys _ = _
      rw [ih]
theorem keys_used (p : S40) (c : Cont) (es : Ents) : keys (usedEnts p c es) = but p (keys es) ++ [p] := by rw [usedEnts, keys_snoc, keys_isAt]
theorem but_len (p : S40) : ∀ xs : List S40, xs.Nodup → xs.length ≤ (but p xs).length + 1
  | [], _ => Nat.zero_le _
  | x :: xs, h => by
    obtain ⟨h1, h2⟩ := List.nodup_cons.1 h
    have ih := but_len p xs h2
    unfold but at ih ⊢
    rw [List.filter_cons]
    by_cases e : x = p
    · rw [if_neg (by simp [e])]
      have : xs.filter (fun q => !decide (q = p)) = xs := List.filter_eq_self.2 (fun q hq => by
        have : q ≠ p := fun z => h1 (by rw [e, ← z]; exact hq)
        simp [this])
      rw [this, List.length_cons]; omega
    · rw [if_pos (by simp [e]), List.length_cons, List.length_cons]; omega
theorem but_le (p : S40) (xs : List S40) : (but p xs).length ≤ xs.length := List.length_filter_le _ _
theorem but_nodup (p : S40) (xs : List S40) (h : xs.Nodup) : (but p xs ++ [p]).Nodup := by
  refine List.nodup_append.2 ⟨List.Sublist.nodup (List.filter_sublist) h, by simp, ?_⟩
  intro x hx y hy e
  rw [List.mem_singleton] at hy
  subst hy
  subst e
  have := (List.mem_filter.1 hx).2
  simp at this
theorem lastN_next (n : Nat) (p : S40) (us : List S40) (hn : us.Nodup) (h1 : 1 ≤ n) :
    lastN n (but p us ++ [p]) = if n < (but p (lastN n us) ++ [p]).length then (but p (lastN n us) ++ [p]).tail else but p (lastN n us) ++ [p] := by
  obtain ⟨pre, ks, hpre, hus, hks⟩ : ∃ pre ks, pre = us.take (us.length - n) ∧ us = pre ++ ks ∧ ks = lastN n us := ⟨_, _, rfl, (List.take_append_drop _ _).symm, rfl⟩
  have hkl : ks.length = us.length - (us.length - n) := by rw [hks, lastN, List.length_drop]
  have hpl : pre.length = us.length - n := by rw [hpre, List.length_take]; omega
  have hkn : ks.Nodup := by rw [hus] at hn; exact (List.nodup_append.1 hn).2.1
  have hb1 := but_len p ks hkn
  have hb2 := but_le p ks
  have hbu : but p us = but p pre ++ but p ks := by
    have := congrArg (but p) hus
    rw [this]; exact List.filter_append ..
  have hbp := but_le p pre
  rw [← hks, hbu, List.append_assoc]
  obtain ⟨K, hK⟩ : ∃ K, K = but p ks ++ [p] := ⟨_, rfl⟩
  have hKl : K.length = (but p ks).length + 1 := by rw [hK, List.length_append, List.length_singleton]
  rw [← hK]
  unfold lastN
  rw [List.length_append]
  by_cases hc : n < K.length
  · rw [if_pos hc]
    have : (but p pre).length + K.length - n = (but p pre).length + 1 := by omega
    rw [this, ← List.drop_drop, List.drop_left' rfl, List.drop_one]
  · rw [if_neg hc]
    have : (but p pre).length + K.length - n = (but p pre).length := by
      by_cases hp : us.length ≤ n
      · have : (but p pre).length = 0 := by omega
        omega
      · omega
    rw [this, List.drop_left' rfl]
structure Rec (n i : Nat) (S : PoolS) (us : List S40) : Prop where
  nd : us.Nodup
  len : us.length ≤ i
  ks : keys S.ents = lastN n us
  cap : S.cap = (n : Int)
  n1 : 1 ≤ n
theorem Rec.same {n i : Nat} {S S' : PoolS} {us : List S40} (h : Rec n i S us) (he : S'.ents = S.ents) (hc : S'.cap = S.cap) : Rec n (i + 1) S' us :=
  { h with len := Nat.le_succ_of_le h.len, ks := by rw [he]; exact h.ks, cap := by rw [hc]; exact h.cap }
theorem Rec.put {n i : Nat} {S : PoolS} {us : List S40} (h : Rec n i S us) (p : S40) (c : Cont) : Rec n (i + 1) (putS p c S) (but p us ++ [p]) :=
  { nd := but_nodup p us h.nd
    len := by rw [List.length_append, List.length_singleton]; have := but_le p us; have := h.len; omega
    ks := by
      rw [lastN_next n p us h.nd h.n1, ← h.ks, ← keys_used p c S.ents, keys_length]
      show keys (if S.cap < ((usedEnts p c S.ents).length : Int) then (usedEnts p c S.ents).tail else usedEnts p c S.ents) = _
      rw [h.cap]
      by_cases hc : n < (usedEnts p c S.ents).length
      · rw [if_pos (by omega), if_pos hc]; simp [keys]
      · rw [if_neg (by omega), if_neg hc]
    cap := h.cap
    n1 := h.n1 }
theorem Rec.hit {n i : Nat} {S : PoolS} {us : List S40} (h : Rec n i S us) (hf : Fine i S) (p : S40) (c : Cont) (hc : look p S.ents = some c) : Rec n (i + 1) (used p c (hit S)) (but p us ++ [p]) := by
  have h1 := h.put p c
  have hl : ¬ S.cap < ((usedEnts p c S.ents).length : Int) := by
    have h2 := keep_lt p S.ents (look_in hc)
    have h3 := hf.len
    have hu : (usedEnts p c S.ents).length = (keepEnts (isAt p) S.ents).length + 1 := by simp [usedEnts]
    omega
  have he : (putS p c S).ents = usedEnts p c S.ents := by
    show (if S.cap < ((usedEnts p c S.ents).length : Int) then (usedEnts p c S.ents).tail else usedEnts p c S.ents) = _
    rw [if_neg hl]
  exact { h1 with ks := by have := h1.ks; rw [he] at this; exact this }
theorem lastN_get (n : Nat) (us : List S40) (j : Nat) (h : j < (lastN n us).length) (h2 : us.length - n + j < us.length) : (lastN n us)[j] = us[us.length - n + j] := by simp [lastN]
set_option maxHeartbeats 4000000 in
set_option maxRecDepth 100000 in
theorem recent_calls (W : World) (u : Int) (u0 : 0 ≤ u) (u1 : u < 256) (a : Option Addr) (cap : Nat) (l : List S38) (hC : Kd.C k38 W a l.length l) (hcap : l.length ≤ cap) (hm : cap ≤ maxLen) :
    Calls Try.prog 4 #[.int .u8 u, .slice a l.length cap] W fun e W' => e = .returned (.bool true) ∧ Below W.heap.size W W' := by
  have HC := Aside0.mk hC
  clear hC
  go_enter Try.func4, Try.ntmps4
  go_wp2_with fail
  refine (awake_calls W).mono ?_
  rintro e W1 ⟨rfl, hb1⟩
  have HB1 := Aside0.mk hb1
  have HC1 := Aside0.mk (Kd.C_below HC.out hb1)
  clear hb1
  go_wp2_with fail
  refine (few_calls W1 a cap l HC1.out hcap hm).mono ?_
  rintro e W2 ⟨r, rfl, hr, hb2⟩
  cases r with
  | false =>
    have HB2 := Aside0.mk (HB1.out.trans (hb2.mono HB1.out.size))
    clear hb2 hr HC1
    go_wp2_with fail
    go_ret
    exact ⟨rfl, HB2.out⟩
  | true =>
  have hlen := hr rfl
  have HB2 := Aside0.mk (HB1.out.trans (hb2.mono HB1.out.size))
  clear hb2 hr HC1 HB1
  go_wp2_with fail
  refine (start_calls W2 u u0 u1).mono ?_
  rintro e W3 ⟨rfl, hP3, hb3⟩
  have HB3 := Aside0.mk (HB2.out.trans (hb3.mono HB2.out.size))
  have HP3 := Aside0.mk (hP3.lower HB2.out.size)
  have HF3 := Aside0.mk (fine0 (1 + u % 8) (by omega) (by omega))
  have hsz3 : W.heap.size ≤ W3.heap.size := HB3.out.size
  obtain ⟨g, hg⟩ : ∃ g, g = W2.heap.size + 1 := ⟨_, rfl⟩
  rw [← hg] at HP3
  rw [← hg]
  obtain ⟨F3, hF3⟩ : ∃ F3 : Nat → Prop, F3 = (fun k => k = W2.heap.size ∨ k = g) := ⟨_, rfl⟩
  rw [← hF3] at HP3
  clear hb3 hP3 HB2 hg hF3
  obtain ⟨n, hn, hn1, hn8⟩ : ∃ n : Nat, (1 + u % 8) = (n : Int) ∧ 1 ≤ n ∧ n ≤ 8 := ⟨(1 + u % 8).toNat, by omega, by omega, by omega⟩
  rw [hn] at HP3 HF3
  rw [hn]
  have HFR3 := Aside0.mk HP3.out.range
  go_wp2_with fail
  go_loopg [7, 33] l.length (fun gg s7 s33 wr => ∃ (i : Nat) (F : Nat → Prop) (S : PoolS) (us : List S40) (ub c : Nat), s7 = .slice (some ⟨ub, 0, none⟩) us.length c ∧ s33 = .int .i64 i ∧ i ≤ l.length ∧ l.length - i ≤ gg ∧ Aside0 (PoolIs wr W.heap.size g F S) ∧ Aside0 (Fine i S) ∧ Aside0 (Kd.R k40 40 wr W.heap.size (fun k => ¬ F k) (.slice (some ⟨ub, 0, none⟩) us.length c) us) ∧ Aside0 (Rec n i S us) ∧ Aside0 (Below W.heap.size W wr))
  case atStart =>
    refine ⟨0, F3, ⟨n, [], 0, 0⟩, [], _, 0, rfl, by go_num, Nat.zero_le _, by omega, ⟨HP3.out.below (below_alloc (Below.refl _ _) _)⟩, HF3, ⟨?_⟩, ⟨⟨List.nodup_nil, Nat.le_refl _, by simp [keys, lastN], rfl, hn1⟩⟩, ⟨HB3.out.trans ((below_alloc (Below.refl _ _) _).mono hsz3)⟩⟩
    exact RowAt.toR (xs := []) ⟨#[], blk_new _ _, rfl, Nat.le_refl _, fun j h => by cases h⟩ hsz3 (Nat.zero_le _) (fun z => by have := (HFR3.out _ z).2; omega)
  case round =>
    obtain ⟨i, F, S, us, ub, c, rfl, rfl, hi, hgg, HP, HF, HR, HREC, HB⟩ := hrel
    have hszr : W.heap.size ≤ wr.heap.size := HB.out.size
    by_cases hlt : i < l.length
    · have hltz : (i : Int) < (l.length : Int) := by omega
      obtain ⟨ad, e, h0, h1, h2, h3, h4⟩ := at_T38 (Kd.C_below HC.out HB.out) (i : Int) (by omega) hltz
      rw [rdT38_at l i hlt] at h0 h1 h2 h3 h4
      cases e
      rw [Int.toNat_natCast] at h0 h1 h2 h3 h4
      obtain ⟨o, ho⟩ : ∃ o, o = l[i] := ⟨_, rfl⟩
      rw [← ho] at h0 h1 h2 h3 h4
      clear ho
      obtain ⟨wq, hwq⟩ : ∃ wq, wq = wr := ⟨_, rfl⟩
      subst hwq
      have HBX := Aside0.mk (below_alloc (Below.refl wq.heap.size wq) (.cells #[.int .i64 o.f0, .int .i64 o.f1, .int .i64 o.f2, .int .i64 o.f3, .string o.f4] 38))
      have HX := Aside0.mk (blk_new wq (.cells #[.int .i64 o.f0, .int .i64 o.f1, .int .i64 o.f2, .int .i64 o.f3, .string o.f4] 38))
      have hsx := size_alloc1 wq (.cells #[.int .i64 o.f0, .int .i64 o.f1, .int .i64 o.f2, .int .i64 o.f3, .string o.f4] 38)
      have hy := blk_new (wq.alloc (.cells #[.int .i64 o.f0, .int .i64 o.f1, .int .i64 o.f2, .int .i64 o.f3, .string o.f4] 38)) (.cells #[.int .i64 o.f1, .int .i64 o.f2] 40)
      rw [hsx] at hy
      have HY := Aside0.mk hy
      have hP2 := (HP.out.below HBX.out).below (below_alloc (Below.refl _ _) (.cells #[.int .i64 o.f1, .int .i64 o.f2] 40))
      clear hy
      by_cases hk0 : o.f0 = 0
      · have hd0 : (o.f0 == 0) = true := by rw [hk0]; rfl
        have hd1 : (o.f0 == 1) = false := by rw [hk0]; rfl
        clear hk0
        have hg := get_calls _ W.heap.size g i F S ⟨o.f1, o.f2⟩ hP2 HF.out (by omega)
        have HFI5 := Aside0.mk (HF.out.get ⟨o.f1, o.f2⟩)
        have hgs : getS ⟨o.f1, o.f2⟩ S = match look ⟨o.f1, o.f2⟩ S.ents with | some c => used ⟨o.f1, o.f2⟩ c (hit S) | none => missed S := rfl
        cases hc : look ⟨o.f1, o.f2⟩ S.ents with
        | none =>
          have hr1 : getR ⟨o.f1, o.f2⟩ S = (⟨⟨#[]⟩, 0⟩, false) := by unfold getR; rw [hc]
          rw [hc] at hgs
          rw [hr1, hgs] at hg
          rw [hgs] at HFI5
          have HG := Aside0.mk hg
          clear hc hr1 hgs hg hP2
          go_wp2_with fail
          refine HG.out.mono ?_
          rintro e W5 ⟨rfl, F5, hP5, hF5, hk5, hb5⟩
          have HP5 := Aside0.mk hP5
          have HR5 := Aside0.mk (Kd.R_mono (R_kept (Kd.R_below (Kd.R_below HR.out HBX.out) (below_alloc (Below.refl _ _) _)) hk5 (fun k h1 _ _ => h1)) (fun k hk => fun z => (hF5 k z).elim hk.1 (fun y => by have := hk.2.2; omega)))
          have HB5 := Aside0.mk ((((HB.out.trans (HBX.out.mono hszr))).trans ((below_alloc (Below.refl _ _) _).mono (by omega))).trans hb5)
          have HREC5 := Aside0.mk (HREC.out.same (S' := missed S) rfl rfl)
          clear hP5 hF5 hk5 hb5 HG HP HR HB HX HY HBX h0 h1 h2 h3 h4
          go_wp2_with fail
          go_roundg (l.length - (i + 1))
          case measure => omega
          case rel => exact ⟨i + 1, F5, missed S, us, ub, c, rfl, by go_num, by omega, Nat.le_refl _, HP5, HFI5, HR5, HREC5, HB5⟩
        | some c0 =>
          have hr1 : getR ⟨o.f1, o.f2⟩ S = (c0, true) := by unfold getR; rw [hc]
          have HREC5 := Aside0.mk (HREC.out.hit HF.out ⟨o.f1, o.f2⟩ c0 hc)
          rw [hc] at hgs
          rw [hr1, hgs] at hg
          rw [hgs] at HFI5
          have HG := Aside0.mk hg
          clear hc hr1 hgs hg hP2
          go_wp2_with fail
          refine HG.out.mono ?_
          rintro e W5 ⟨rfl, F5, hP5, hF5, hk5, hb5⟩
          have HP5 := Aside0.mk hP5
          have HFB5 := Aside0.mk hP5.range
          have hszw := hb5.size
          have hs5 : wq.heap.size + 2 ≤ W5.heap.size := by have := hk5.1; have h7 := size_alloc1 (wq.alloc (.cells #[.int .i64 o.f0, .int .i64 o.f1, .int .i64 o.f2, .int .i64 o.f3, .string o.f4] 38)) (.cells #[.int .i64 o.f1, .int .i64 o.f2] 40); omega
          have HR5 := Aside0.mk (R_kept (Kd.R_below (Kd.R_below HR.out HBX.out) (below_alloc (Below.refl _ _) _)) hk5 (fun k h1 _ _ => h1))
          have HB5 := Aside0.mk ((((HB.out.trans (HBX.out.mono hszr))).trans ((below_alloc (Below.refl _ _) _).mono (by omega))).trans hb5)
          have HY5 := Aside0.mk (blk_kept HY.out hk5 (fun z => by have := (HP.out.range _ z).2; omega))
          clear hP5 hF5 hk5 hb5 HG HP HR HB HX HY HBX h0 h1 h2 h3 h4
          obtain ⟨p, hp⟩ : ∃ p : S40, p = ⟨o.f1, o.f2⟩ := ⟨_, rfl⟩
          have hub : us.length ≤ 60 := by have := HREC.out.len; omega
          go_wp2_with fail
          go_loopg [12, 69] us.length (fun gg s12 s69 w' => ∃ (j : Nat) (A' : Option Addr) (c' : Nat) (ys : List S40), s12 = .slice A' ys.length c' ∧ s69 = .int .i64 j ∧ j ≤ us.length ∧ us.length - j ≤ gg ∧ Aside0 (ys = but p (us.take j)) ∧ Aside0 (Kd.R k40 40 w' W5.heap.size (fun _ => True) (.slice A' ys.length c') ys) ∧ Aside0 (Below W5.heap.size W5 w'))
          case atStart => exact ⟨0, _, 0, [], rfl, by go_num, Nat.zero_le _, by omega, ⟨rfl⟩, ⟨RowAt.toR (xs := []) ⟨#[], blk_new _ _, rfl, Nat.le_refl _, fun j h => by cases h⟩ (Nat.le_refl _) (Nat.zero_le _) trivial⟩, ⟨below_alloc (Below.refl _ _) _⟩⟩
          case round =>
            obtain ⟨j, A', c', ys, rfl, rfl, hj, hgj, HYS, HRY, HBw⟩ := hrel
            have hszj : W5.heap.size ≤ wr.heap.size := HBw.out.size
            have hyw := blk_below HY5.out HBw.out
            have y0 : wr.cell? ⟨wq.heap.size + 1, 0, none⟩ = some (.int .i64 o.f1) := by rw [blk_cell hyw]; rfl
            have y1 : wr.cell? ⟨wq.heap.size + 1, 1, none⟩ = some (.int .i64 o.f2) := by rw [blk_cell hyw]; rfl
            have hlw : wq.heap.size + 1 < wr.heap.size := by omega
            have hyl : ys.length ≤ 60 := by rw [HYS.out]; have := but_le p (us.take j); rw [List.length_take] at this; omega
            clear hyw
            by_cases hjl : j < us.length
            · have hjz : (j : Int) < (us.length : Int) := by omega
              obtain ⟨_, _, hCj⟩ := Kd.R_reads' (Kd.R_below HR5.out HBw.out)
              obtain ⟨ad, e, q0, q1⟩ := at_T40 hCj (j : Int) (by omega) hjz
              rw [rdT40_at us j hjl] at q0 q1
              cases e
              have q0' := q0
              have q1' := q1
              rw [Int.toNat_natCast] at q0 q1
              simp only [Int.toNat_natCast, add_plain, Nat.zero_add] at q0' q1'
              have HSN := Aside0.mk (filter_snoc (fun q => !decide (q = p)) us j hjl)
              have HEQ := Aside0.mk (show (us[j].f0 == o.f1 && (us[j].f1 == o.f2)) = decide (us[j] = p) by rw [hp]; exact beqP us[j] ⟨o.f1, o.f2⟩)
              cases hq : (us[j].f0 == o.f1 && (us[j].f1 == o.f2)) with
              | true =>
                have HD := Aside0.mk (hq ▸ HEQ.out)
                have HQ := Aside0.mk hq
                clear hq
                have hq := HQ.out
                go_wp2_with fail
                go_roundg (us.length - (j + 1))
                case measure => omega
                case rel =>
                  refine ⟨j + 1, A', c', ys, rfl, by go_num, by omega, Nat.le_refl _, ⟨?_⟩, ⟨Kd.R_alloc HRY.out _⟩, ⟨HBw.out.trans ((below_alloc (Below.refl _ _) _).mono hszj)⟩⟩
                  show ys = List.filter _ _
                  rw [HSN.out, ← HD.out, HYS.out]; simp [but]
              | false =>
                have HD := Aside0.mk (hq ▸ HEQ.out)
                have HQ := Aside0.mk hq
                clear hq
                have hq := HQ.out
                go_wp2_with (at_builtin; refine Kd.R_append k40 (w0 := W5) W5.heap.size rfl (.tmp 76) (.tmp 78) 28 40 (.agg #[.int .i64 0, .int .i64 0]) 16 rfl Try.underlying28 info40 rfl (by decide) (by omega) _ ys us[j] [.int .i64 us[j].f0, .int .i64 us[j].f1] (fun _ => True) (fun _ => False) rfl (by simp only [size_alloc1]; rfl) (k40_mkM _ _ _ _) (fun _ h => h.elim) (fun k hk => trivial) (Kd.R_alloc HRY.out _) (HBw.out.trans ((below_alloc (Below.refl _ _) _).mono (by omega))) (by simp; omega) (by omega) ?_; intro v1 w1 hR1 hb1 hg1 hat1)
                obtain ⟨A1, c1, hv1, hle1, _⟩ := Kd.R_reads hR1
                subst hv1
                have HR1 := Aside0.mk hR1
                have HB1 := Aside0.mk hb1
                have HY1 := Aside0.mk (show ys ++ [us[j]] = but p (us.take (j + 1)) by show _ = List.filter _ _; rw [HSN.out, ← HD.out, HYS.out]; simp [but])
                clear hR1 hb1 hg1 hat1 HRY HYS HBw
                go_wp2_with fail
                go_roundg (us.length - (j + 1))
                case measure => omega
                case rel => exact ⟨j + 1, A1, c1, ys ++ [us[j]], by first | rfl | simp, by go_num, by omega, Nat.le_refl _, HY1, HR1, HB1⟩
            · obtain rfl : j = us.length := by omega
              rw [List.take_length] at HYS
              go_wp2_with (at_builtin; refine Kd.R_append k40 (w0 := W5) W5.heap.size rfl (.tmp 81) (.tmp 83) 28 40 (.agg #[.int .i64 0, .int .i64 0]) 16 rfl Try.underlying28 info40 rfl (by decide) (by omega) _ ys ⟨o.f1, o.f2⟩ [.int .i64 o.f1, .int .i64 o.f2] (fun _ => True) (fun _ => False) rfl rfl (k40_mkM _ _ _ ⟨o.f1, o.f2⟩) (fun _ h => h.elim) (fun k hk => trivial) HRY.out HBw.out (by omega) (by omega) ?_; intro v1 w1 hR1 hb1 hg1 hat1)
              rw [← hp] at hR1
              obtain ⟨rb, c1, hv1, hrow1, hle1, hcm1, _⟩ := R_row hR1 (by simp)
              have hyl2 : (ys ++ [p]).length = ys.length + 1 := by simp
              rw [hyl2] at hv1
              subst hv1
              have HR1 := Aside0.mk (show Kd.R k40 40 w1 W.heap.size (fun k => ¬ F5 k) (.slice (some ⟨rb, 0, none⟩) (ys ++ [p]).length c1) (ys ++ [p]) from RowAt.toR hrow1 (by have := HB5.out.size; omega) hcm1 (fun z => by have := (HFB5.out _ z).2; omega))
              have HB1 := Aside0.mk (HB5.out.trans (hb1.mono HB5.out.size))
              have HP1 := Aside0.mk (HP5.out.below hb1)
              have HREC1 := HREC5
              have hll : but ⟨o.f1, o.f2⟩ us ++ [⟨o.f1, o.f2⟩] = ys ++ [p] := by rw [HYS.out, hp]
              rw [hll] at HREC1
              clear hR1 hb1 hg1 hat1 HRY HYS HBw hrow1
              go_wp2_with fail
              go_roundg (l.length - (i + 1))
              case measure => omega
              case rel => exact ⟨i + 1, F5, _, ys ++ [p], rb, c1, by first | rfl | (rw [hyl2]), by go_num, by omega, Nat.le_refl _, HP1, HFI5, HR1, HREC1, HB1⟩
      · have hd0 : (o.f0 == 0) = false := beq_eq_false_iff_ne.2 hk0
        by_cases hk1 : o.f0 = 1
        · have hd1 : (o.f0 == 1) = true := by rw [hk1]; rfl
          have hg := do_calls _ W.heap.size g i F S o hP2 HF.out (by omega)
          have hdo : doS o S = putS ⟨o.f1, o.f2⟩ ⟨o.f4, o.f3⟩ S := by unfold doS; rw [if_neg hk0, if_pos hk1]; rfl
          have HFI5 := Aside0.mk (HF.out.do o)
          have HREC5 := Aside0.mk (HREC.out.put ⟨o.f1, o.f2⟩ ⟨o.f4, o.f3⟩)
          rw [hdo] at hg HFI5
          unfold encO at hg
          have HG := Aside0.mk hg
          clear hg hdo hk0 hk1 hP2
          go_wp2_with fail
          refine HG.out.mono ?_
          rintro e W5 ⟨rfl, F5, hP5, hF5, hk5, hb5⟩
          have HP5 := Aside0.mk hP5
          have HFB5 := Aside0.mk hP5.range
          have hszw := hb5.size
          have hs5 : wq.heap.size + 2 ≤ W5.heap.size := by have := hk5.1; have h7 := size_alloc1 (wq.alloc (.cells #[.int .i64 o.f0, .int .i64 o.f1, .int .i64 o.f2, .int .i64 o.f3, .string o.f4] 38)) (.cells #[.int .i64 o.f1, .int .i64 o.f2] 40); omega
          have HR5 := Aside0.mk (R_kept (Kd.R_below (Kd.R_below HR.out HBX.out) (below_alloc (Below.refl _ _) _)) hk5 (fun k h1 _ _ => h1))
          have HB5 := Aside0.mk ((((HB.out.trans (HBX.out.mono hszr))).trans ((below_alloc (Below.refl _ _) _).mono (by omega))).trans hb5)
          have HY5 := Aside0.mk (blk_kept HY.out hk5 (fun z => by have := (HP.out.range _ z).2; omega))
          clear hP5 hF5 hk5 hb5 HG HP HR HB HX HY HBX h0 h1 h2 h3 h4
          obtain ⟨p, hp⟩ : ∃ p : S40, p = ⟨o.f1, o.f2⟩ := ⟨_, rfl⟩
          have hub : us.length ≤ 60 := by have := HREC.out.len; omega
          go_wp2_with fail
          go_loopg [12, 69] us.length (fun gg s12 s69 w' => ∃ (j : Nat) (A' : Option Addr) (c' : Nat) (ys : List S40), s12 = .slice A' ys.length c' ∧ s69 = .int .i64 j ∧ j ≤ us.length ∧ us.length - j ≤ gg ∧ Aside0 (ys = but p (us.take j)) ∧ Aside0 (Kd.R k40 40 w' W5.heap.size (fun _ => True) (.slice A' ys.length c') ys) ∧ Aside0 (Below W5.heap.size W5 w'))
          case atStart => exact ⟨0, _, 0, [], rfl, by go_num, Nat.zero_le _, by omega, ⟨rfl⟩, ⟨RowAt.toR (xs := []) ⟨#[], blk_new _ _, rfl, Nat.le_refl _, fun j h => by cases h⟩ (Nat.le_refl _) (Nat.zero_le _) trivial⟩, ⟨below_alloc (Below.refl _ _) _⟩⟩
          case round =>
            obtain ⟨j, A', c', ys, rfl, rfl, hj, hgj, HYS, HRY, HBw⟩ := hrel
            have hszj : W5.heap.size ≤ wr.heap.size := HBw.out.size
            have hyw := blk_below HY5.out HBw.out
            have y0 : wr.cell? ⟨wq.heap.size + 1, 0, none⟩ = some (.int .i64 o.f1) := by rw [blk_cell hyw]; rfl
            have y1 : wr.cell? ⟨wq.heap.size + 1, 1, none⟩ = some (.int .i64 o.f2) := by rw [blk_cell hyw]; rfl
            have hlw : wq.heap.size + 1 < wr.heap.size := by omega
            have hyl : ys.length ≤ 60 := by rw [HYS.out]; have := but_le p (us.take j); rw [List.length_take] at this; omega
            clear hyw
            by_cases hjl : j < us.length
            · have hjz : (j : Int) < (us.length : Int) := by omega
              obtain ⟨_, _, hCj⟩ := Kd.R_reads' (Kd.R_below HR5.out HBw.out)
              obtain ⟨ad, e, q0, q1⟩ := at_T40 hCj (j : Int) (by omega) hjz
              rw [rdT40_at us j hjl] at q0 q1
              cases e
              have q0' := q0
              have q1' := q1
              rw [Int.toNat_natCast] at q0 q1
              simp only [Int.toNat_natCast, add_plain, Nat.zero_add] at q0' q1'
              have HSN := Aside0.mk (filter_snoc (fun q => !decide (q = p)) us j hjl)
              have HEQ := Aside0.mk (show (us[j].f0 == o.f1 && (us[j].f1 == o.f2)) = decide (us[j] = p) by rw [hp]; exact beqP us[j] ⟨o.f1, o.f2⟩)
              cases hq : (us[j].f0 == o.f1 && (us[j].f1 == o.f2)) with
              | true =>
                have HD := Aside0.mk (hq ▸ HEQ.out)
                have HQ := Aside0.mk hq
                clear hq
                have hq := HQ.out
                go_wp2_with fail
                go_roundg (us.length - (j + 1))
                case measure => omega
                case rel =>
                  refine ⟨j + 1, A', c', ys, rfl, by go_num, by omega, Nat.le_refl _, ⟨?_⟩, ⟨Kd.R_alloc HRY.out _⟩, ⟨HBw.out.trans ((below_alloc (Below.refl _ _) _).mono hszj)⟩⟩
                  show ys = List.filter _ _
                  rw [HSN.out, ← HD.out, HYS.out]; simp [but]
              | false =>
                have HD := Aside0.mk (hq ▸ HEQ.out)
                have HQ := Aside0.mk hq
                clear hq
                have hq := HQ.out
                go_wp2_with (at_builtin; refine Kd.R_append k40 (w0 := W5) W5.heap.size rfl (.tmp 76) (.tmp 78) 28 40 (.agg #[.int .i64 0, .int .i64 0]) 16 rfl Try.underlying28 info40 rfl (by decide) (by omega) _ ys us[j] [.int .i64 us[j].f0, .int .i64 us[j].f1] (fun _ => True) (fun _ => False) rfl (by simp only [size_alloc1]; rfl) (k40_mkM _ _ _ _) (fun _ h => h.elim) (fun k hk => trivial) (Kd.R_alloc HRY.out _) (HBw.out.trans ((below_alloc (Below.refl _ _) _).mono (by omega))) (by simp; omega) (by omega) ?_; intro v1 w1 hR1 hb1 hg1 hat1)
                obtain ⟨A1, c1, hv1, hle1, _⟩ := Kd.R_reads hR1
                subst hv1
                have HR1 := Aside0.mk hR1
                have HB1 := Aside0.mk hb1
                have HY1 := Aside0.mk (show ys ++ [us[j]] = but p (us.take (j + 1)) by show _ = List.filter _ _; rw [HSN.out, ← HD.out, HYS.out]; simp [but])
                clear hR1 hb1 hg1 hat1 HRY HYS HBw
                go_wp2_with fail
                go_roundg (us.length - (j + 1))
                case measure => omega
                case rel => exact ⟨j + 1, A1, c1, ys ++ [us[j]], by first | rfl | simp, by go_num, by omega, Nat.le_refl _, HY1, HR1, HB1⟩
            · obtain rfl : j = us.length := by omega
              rw [List.take_length] at HYS
              go_wp2_with (at_builtin; refine Kd.R_append k40 (w0 := W5) W5.heap.size rfl (.tmp 81) (.tmp 83) 28 40 (.agg #[.int .i64 0, .int .i64 0]) 16 rfl Try.underlying28 info40 rfl (by decide) (by omega) _ ys ⟨o.f1, o.f2⟩ [.int .i64 o.f1, .int .i64 o.f2] (fun _ => True) (fun _ => False) rfl rfl (k40_mkM _ _ _ ⟨o.f1, o.f2⟩) (fun _ h => h.elim) (fun k hk => trivial) HRY.out HBw.out (by omega) (by omega) ?_; intro v1 w1 hR1 hb1 hg1 hat1)
              rw [← hp] at hR1
              obtain ⟨rb, c1, hv1, hrow1, hle1, hcm1, _⟩ := R_row hR1 (by simp)
              have hyl2 : (ys ++ [p]).length = ys.length + 1 := by simp
              rw [hyl2] at hv1
              subst hv1
              have HR1 := Aside0.mk (show Kd.R k40 40 w1 W.heap.size (fun k => ¬ F5 k) (.slice (some ⟨rb, 0, none⟩) (ys ++ [p]).length c1) (ys ++ [p]) from RowAt.toR hrow1 (by have := HB5.out.size; omega) hcm1 (fun z => by have := (HFB5.out _ z).2; omega))
              have HB1 := Aside0.mk (HB5.out.trans (hb1.mono HB5.out.size))
              have HP1 := Aside0.mk (HP5.out.below hb1)
              have HREC1 := HREC5
              have hll : but ⟨o.f1, o.f2⟩ us ++ [⟨o.f1, o.f2⟩] = ys ++ [p] := by rw [HYS.out, hp]
              rw [hll] at HREC1
              clear hR1 hb1 hg1 hat1 HRY HYS HBw hrow1
              go_wp2_with fail
              go_roundg (l.length - (i + 1))
              case measure => omega
              case rel => exact ⟨i + 1, F5, _, ys ++ [p], rb, c1, by first | rfl | (rw [hyl2]), by go_num, by omega, Nat.le_refl _, HP1, HFI5, HR1, HREC1, HB1⟩
        · have hd1 : (o.f0 == 1) = false := beq_eq_false_iff_ne.2 hk1
          have HP5 := Aside0.mk hP2
          have HR5 := Aside0.mk (Kd.R_below (Kd.R_below HR.out HBX.out) (below_alloc (Below.refl _ (wq.alloc (.cells #[.int .i64 o.f0, .int .i64 o.f1, .int .i64 o.f2, .int .i64 o.f3, .string o.f4] 38))) (.cells #[.int .i64 o.f1, .int .i64 o.f2] 40)))
          have HB5 := Aside0.mk ((HB.out.trans (HBX.out.mono hszr)).trans ((below_alloc (Below.refl _ (wq.alloc (.cells #[.int .i64 o.f0, .int .i64 o.f1, .int .i64 o.f2, .int .i64 o.f3, .string o.f4] 38))) (.cells #[.int .i64 o.f1, .int .i64 o.f2] 40)).mono (by omega)))
          have HREC5 := Aside0.mk (HREC.out.same (S' := S) rfl rfl)
          have HFI5 := Aside0.mk (HF.out.mono (Nat.le_succ i))
          clear hk0 hk1 hP2 HP HR HB HX HY HBX
          go_wp2_with fail
          go_roundg (l.length - (i + 1))
          case measure => omega
          case rel => exact ⟨i + 1, F, S, us, ub, c, rfl, by go_num, by omega, Nat.le_refl _, HP5, HFI5, HR5, HREC5, HB5⟩
    · obtain rfl : i = l.length := by omega
      have hul : us.length ≤ 60 := by have := HREC.out.len; omega
      have hcu := (Kd.R_reads' HR.out).2.1
      by_cases hz : us.length = 0
      · obtain rfl : us = [] := List.eq_nil_of_length_eq_zero hz
        rw [List.length_nil] at hcu
        rw [List.length_nil]
        have hmx : max 0 ((0 : Int) - (n : Int)) = 0 := by omega
        have hmx2 : max 0 (-(n : Int)) = 0 := by omega
        by_cases hc0 : c = 0
        · subst hc0
          go_wp2_with fail
          refine (places_calls wr _ _ _ _ HP.out).mono ?_
          rintro e W5 ⟨v5, rfl, hR5, hb5⟩
          rw [HREC.out.ks] at hR5
          obtain ⟨ys, hys⟩ : ∃ ys, ys = lastN n [] := ⟨_, rfl⟩
          rw [← hys] at hR5
          obtain ⟨A5, c5, hv5, _, hC5⟩ := Kd.R_reads hR5
          subst hv5
          have HC5 := Aside0.mk hC5
          have HB5 := Aside0.mk (HB.out.trans (hb5.mono HB.out.size))
          have hy0 : ys.length = 0 := by rw [hys]; simp [lastN]
          obtain rfl : ys = [] := List.eq_nil_of_length_eq_zero hy0
          clear hys hR5 hb5 hC5
          clear HP HR HB
          go_wp2_with fail
          go_loopg [102] ([] : List S40).length (fun gg s102 w' => ∃ (j : Nat), s102 = .int .i64 j ∧ j ≤ ([] : List S40).length ∧ ([] : List S40).length - j ≤ gg ∧ Aside0 (Below W5.heap.size W5 w'))
          case atStart => exact ⟨0, by go_num, Nat.zero_le _, by omega, ⟨Below.refl _ _⟩⟩
          case round =>
            obtain ⟨j, rfl, hj2, hgj2, HBw⟩ := hrel
            by_cases hjl : j < ([] : List S40).length
            · have hjz : (j : Int) < (([] : List S40).length : Int) := by omega
              exact absurd hjl (by simp)
            · obtain rfl : j = 0 := by simpa using hj2
              go_wp2_with fail
              go_ret
              exact ⟨rfl, HB5.out.trans (HBw.out.mono HB5.out.size)⟩
        · have hc1 : 0 < c := by omega
          go_wp2_with fail
          refine (places_calls wr _ _ _ _ HP.out).mono ?_
          rintro e W5 ⟨v5, rfl, hR5, hb5⟩
          rw [HREC.out.ks] at hR5
          obtain ⟨ys, hys⟩ : ∃ ys, ys = lastN n [] := ⟨_, rfl⟩
          rw [← hys] at hR5
          obtain ⟨A5, c5, hv5, _, hC5⟩ := Kd.R_reads hR5
          subst hv5
          have HC5 := Aside0.mk hC5
          have HB5 := Aside0.mk (HB.out.trans (hb5.mono HB.out.size))
          have hy0 : ys.length = 0 := by rw [hys]; simp [lastN]
          obtain rfl : ys = [] := List.eq_nil_of_length_eq_zero hy0
          clear hys hR5 hb5 hC5
          clear HP HR HB
          go_wp2_with fail
          go_loopg [102] ([] : List S40).length (fun gg s102 w' => ∃ (j : Nat), s102 = .int .i64 j ∧ j ≤ ([] : List S40).length ∧ ([] : List S40).length - j ≤ gg ∧ Aside0 (Below W5.heap.size W5 w'))
          case atStart => exact ⟨0, by go_num, Nat.zero_le _, by omega, ⟨Below.refl _ _⟩⟩
          case round =>
            obtain ⟨j, rfl, hj2, hgj2, HBw⟩ := hrel
            by_cases hjl : j < ([] : List S40).length
            · have hjz : (j : Int) < (([] : List S40).length : Int) := by omega
              exact absurd hjl (by simp)
            · obtain rfl : j = 0 := by simpa using hj2
              go_wp2_with fail
              go_ret
              exact ⟨rfl, HB5.out.trans (HBw.out.mono HB5.out.size)⟩
      · have hm1 : us.length - n < us.length := by omega
        have hm2 : us.length - n < c := by omega
        by_cases hun : us.length ≤ n
        · have hun2 : (us.length : Int) - (n : Int) ≤ 0 := by omega
          go_wp2_with fail
          refine (places_calls wr _ _ _ _ HP.out).mono ?_
          rintro e W5 ⟨v5, rfl, hR5, hb5⟩
          rw [HREC.out.ks] at hR5
          obtain ⟨ys, hys⟩ : ∃ ys, ys = lastN n us := ⟨_, rfl⟩
          rw [← hys] at hR5
          obtain ⟨A5, c5, hv5, _, hC5⟩ := Kd.R_reads hR5
          subst hv5
          have HC5 := Aside0.mk hC5
          have HB5 := Aside0.mk (HB.out.trans (hb5.mono HB.out.size))
          have hyu : ys = us := by rw [hys, lastN, show us.length - n = 0 by omega, List.drop_zero]
          have hyl : ys.length = us.length := by rw [hyu]
          have HYS := Aside0.mk hys
          have HR5 := Aside0.mk (Kd.R_below HR.out hb5)
          clear hys hR5 hb5 hC5
          rw [← hyl]
          clear HP HR HB
          go_wp2_with fail
          go_loopg [102] ys.length (fun gg s102 w' => ∃ (j : Nat), s102 = .int .i64 j ∧ j ≤ ys.length ∧ ys.length - j ≤ gg ∧ Aside0 (Below W5.heap.size W5 w'))
          case atStart => exact ⟨0, by go_num, Nat.zero_le _, by omega, ⟨Below.refl _ _⟩⟩
          case round =>
            obtain ⟨j, rfl, hj2, hgj2, HBw⟩ := hrel
            by_cases hjl : j < ys.length
            · have hjz : (j : Int) < (ys.length : Int) := by omega
              obtain ⟨ad, e, q0, q1⟩ := at_T40 (Kd.C_below HC5.out HBw.out) (j : Int) (by omega) hjz
              have hgs : ys[j] = us[j]'(by omega) := by subst hyu; rfl
              obtain ⟨_, hrw, _⟩ := RowAt.of_R (Kd.R_below HR5.out HBw.out)
              obtain ⟨r0, r1⟩ := hrw.cells j (by omega)
              rw [rdT40_at ys j hjl] at q0 q1
              rw [← hgs] at r0 r1
              cases e
              rw [Int.toNat_natCast] at q0 q1
              go_wp2_with fail
              go_quiet (fail)
              go_wp2_with fail
              go_roundg (ys.length - (j + 1))
              case measure => omega
              case rel => exact ⟨j + 1, by go_num, by omega, Nat.le_refl _, ⟨below_drewN HBw.out _⟩⟩
            · obtain rfl : j = ys.length := by omega
              go_wp2_with fail
              go_ret
              exact ⟨rfl, HB5.out.trans (HBw.out.mono HB5.out.size)⟩
        · have hun2 : n < us.length := by omega
          have hun3 : (n : Int) < (us.length : Int) := by omega
          go_wp2_with fail
          refine (places_calls wr _ _ _ _ HP.out).mono ?_
          rintro e W5 ⟨v5, rfl, hR5, hb5⟩
          rw [HREC.out.ks] at hR5
          obtain ⟨ys, hys⟩ : ∃ ys, ys = lastN n us := ⟨_, rfl⟩
          rw [← hys] at hR5
          obtain ⟨A5, c5, hv5, _, hC5⟩ := Kd.R_reads hR5
          subst hv5
          have HC5 := Aside0.mk hC5
          have HB5 := Aside0.mk (HB.out.trans (hb5.mono HB.out.size))
          have hyl : ys.length = us.length - (us.length - n) := by rw [hys, lastN, List.length_drop]
          have HYS := Aside0.mk hys
          have HR5 := Aside0.mk (Kd.R_below HR.out hb5)
          clear hys hR5 hb5 hC5
          rw [← hyl]
          clear HP HR HB
          go_wp2_with fail
          go_loopg [102] ys.length (fun gg s102 w' => ∃ (j : Nat), s102 = .int .i64 j ∧ j ≤ ys.length ∧ ys.length - j ≤ gg ∧ Aside0 (Below W5.heap.size W5 w'))
          case atStart => exact ⟨0, by go_num, Nat.zero_le _, by omega, ⟨Below.refl _ _⟩⟩
          case round =>
            obtain ⟨j, rfl, hj2, hgj2, HBw⟩ := hrel
            by_cases hjl : j < ys.length
            · have hjz : (j : Int) < (ys.length : Int) := by omega
              obtain ⟨ad, e, q0, q1⟩ := at_T40 (Kd.C_below HC5.out HBw.out) (j : Int) (by omega) hjz
              have hgs : ys[j] = us[us.length - n + j]'(by omega) := by
                have := HYS.out
                subst this
                exact lastN_get _ _ _ _ _
              obtain ⟨_, hrw, _⟩ := RowAt.of_R (Kd.R_below HR5.out HBw.out)
              obtain ⟨r0, r1⟩ := hrw.cells (us.length - n + j) (by omega)
              rw [rdT40_at ys j hjl] at q0 q1
              rw [← hgs] at r0 r1
              rw [Nat.add_mul] at r0 r1
              cases e
              rw [Int.toNat_natCast] at q0 q1
              go_wp2_with fail
              go_quiet (fail)
              go_wp2_with fail
              go_roundg (ys.length - (j + 1))
              case measure => omega
              case rel => exact ⟨j + 1, by go_num, by omega, Nat.le_refl _, ⟨below_drewN HBw.out _⟩⟩
            · obtain rfl : j = ys.length := by omega
              go_wp2_with fail
              go_ret
              exact ⟨rfl, HB5.out.trans (HBw.out.mono HB5.out.size)⟩
end Go.Proofs.Ytlfmlmnpbcidnaa.PG

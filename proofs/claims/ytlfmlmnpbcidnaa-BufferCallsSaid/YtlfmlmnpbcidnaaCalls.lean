/- The walk of BufferCalls. -/
import Derived.Test.YtlfmlmnpbcidnaaStep
import Derived.BigQuiet
import Derived.Test.YtlfmlmnpbcidnaaPGx4
import Derived.Test.YtlfmlmnpbcidnaaPGx5
namespace Go.Proofs.Ytlfmlmnpbcidnaa.PG
open Go.RowKit Go.Proofs.YtlfmlmnpbcidnaaW.PrintWords Go.Proofs.YtlfmlmnpbcidnaaW.PrintLast Go.Proofs.YtlfmlmnpbcidnaaW.PrintMore
set_option linter.unusedVariables false
set_option linter.unusedSimpArgs false
/-! ### BufferCalls -/
set_option maxHeartbeats 4000000 in
set_option maxRecDepth 100000 in
theorem bcalls_calls (W : World) (u : Int) (u0 : 0 ≤ u) (u1 : u < 256) (a : Option Addr) (cap : Nat) (l : List S38) (hC : Kd.C k38 W a l.length l) (hcap : l.length ≤ cap) (hm : cap ≤ maxLen) :
    Calls Try.prog 9 #[.int .u8 u, .slice a l.length cap] W fun e W' => e = .returned (.bool true) ∧ Below W.heap.size W W' := by
  have HC := Aside0.mk hC
  clear hC
  go_enter Try.func9, Try.ntmps9
  go_wp2_with fail
  refine (awake_calls W).mono ?_
  rintro e W1 ⟨rfl, hb1⟩
  have HB1 := Aside0.mk hb1
  have HC1 := Aside0.mk (Kd.C_below HC.out hb1)
  clear hb1
  go_wp2_with fail
  refine (few_calls W1 a cap l HC1.out hcap hm).mono ?_
  rintro e W2 ⟨r, rfl, hr, hb2⟩
  cases r with
  | false =>
    have HB2 := Aside0.mk (HB1.out.trans (hb2.mono HB1.out.size))
    clear hb2 hr HC1
    go_wp2_with fail
    go_ret
    exact ⟨rfl, HB2.out⟩
  | true =>
  have hlen := hr rfl
  have HB2 := Aside0.mk (HB1.out.trans (hb2.mono HB1.out.size))
  clear hb2 hr HC1 HB1
  go_wp2_with fail
  refine (start_calls W2 u u0 u1).mono ?_
  rintro e W3 ⟨rfl, hP3, hb3⟩
  have HB3 := Aside0.mk (HB2.out.trans (hb3.mono HB2.out.size))
  have HP3 := Aside0.mk (hP3.lower HB2.out.size)
  have HF3 := Aside0.mk (fine0 (1 + u % 8) (by omega) (by omega))
  have hsz3 : W.heap.size ≤ W3.heap.size := HB3.out.size
  obtain ⟨g, hg⟩ : ∃ g, g = W2.heap.size + 1 := ⟨_, rfl⟩
  rw [← hg] at HP3
  rw [← hg]
  obtain ⟨F3, hF3⟩ : ∃ F3 : Nat → Prop, F3 = (fun k => k = W2.heap.size ∨ k = g) := ⟨_, rfl⟩
  rw [← hF3] at HP3
  clear hb3 hP3 HB2 hg hF3
  have HFR3 := Aside0.mk HP3.out.range
  obtain ⟨S3, hS3⟩ : ∃ S3 : PoolS, S3 = ⟨1 + u % 8, [], 0, 0⟩ := ⟨_, rfl⟩
  rw [← hS3] at HP3 HF3
  have e1 : S3.cap = 1 + u % 8 := by rw [hS3]
  have e2 : S3.ents = [] := by rw [hS3]
  have e3 : S3.hits = 0 := by rw [hS3]
  have e4 : S3.miss = 0 := by rw [hS3]
  have hbx := below_alloc (Below.refl W3.heap.size W3) (.cells #[.int .i64 (1 + u % 8), .slice none 0 0, .int .i64 0, .int .i64 0] 54)
  have HP4 := Aside0.mk (HP3.out.below hbx)
  have HB4 := Aside0.mk (HB3.out.trans (hbx.mono hsz3))
  have HX4 := Aside0.mk (blk_new W3 (.cells #[.int .i64 (1 + u % 8), .slice none 0 0, .int .i64 0, .int .i64 0] 54))
  have hs4 := size_alloc1 W3 (.cells #[.int .i64 (1 + u % 8), .slice none 0 0, .int .i64 0, .int .i64 0] 54)
  have hsame := same_calls _ W.heap.size g F3 S3 (1 + u % 8) none 0 HP4.out (by rw [e2]; exact Nat.zero_le _) (by rw [e2]; exact Kd.C_nil _ _)
  rw [e2, e3, e4, List.length_nil] at hsame
  have HSAME := Aside0.mk hsame
  have HE := Aside0.mk (And.intro e1 (And.intro e2 (And.intro e3 e4)))
  clear hsame hbx hS3 e1 e2 e3 e4
  go_wp2_with fail
  refine HSAME.out.mono ?_
  rintro e W5 ⟨rfl, hb5⟩
  have HP5 := Aside0.mk (HP4.out.below hb5)
  have HX5 := Aside0.mk (blk_below HX4.out hb5)
  have HB5 := Aside0.mk (HB4.out.trans (hb5.mono HB4.out.size))
  have hs5 : W3.heap.size < W5.heap.size := by have := hb5.size; omega
  clear hb5 HSAME HP4 HX4 HB4
  obtain ⟨tb, htb⟩ : ∃ tb, tb = W3.heap.size := ⟨_, rfl⟩
  have HFT := Aside0.mk (show ¬ F3 tb from fun z => by have := (HFR3.out tb z).2; omega)
  go_wp2_with fail
  rw [← htb]
  rw [← htb] at HX5 hs5
  have hWt : W.heap.size ≤ tb := by omega
  clear htb
  go_loopg [34] l.length (fun gg s34 wr => ∃ (i : Nat) (F : Nat → Prop) (S : PoolS) (A : Option Addr) (c : Nat), s34 = .int .i64 i ∧ i ≤ l.length ∧ l.length - i ≤ gg ∧ tb < wr.heap.size ∧ Aside0 (PoolIs wr W.heap.size g F S) ∧ Aside0 (Fine i S) ∧ Aside0 (Kd.R k70 70 wr W.heap.size (fun k => ¬ F k) (.slice A S.ents.length c) (pgs S.ents)) ∧ Aside0 (wr.heap[tb]? = some (.cells #[.int .i64 S.cap, .slice A S.ents.length c, .int .i64 S.hits, .int .i64 S.miss] 54 (0, 0))) ∧ Aside0 (¬ F tb) ∧ Aside0 (Below W.heap.size W wr))
  case atStart =>
    obtain ⟨e1, e2, e3, e4⟩ := HE.out
    refine ⟨0, F3, S3, none, 0, by go_num, Nat.zero_le _, by omega, hs5, HP5, HF3, ⟨?_⟩, ⟨?_⟩, HFT, HB5⟩
    · rw [e2]; exact Kd.R_nil _ _ _ _ _
    · rw [e1, e2, e3, e4]; exact HX5.out
  case round =>
    obtain ⟨i, F, S, A, c, rfl, hi, hgg, htr, HP, HF, HR, HX, HN, HB⟩ := hrel
    have hszr : W.heap.size ≤ wr.heap.size := HB.out.size
    by_cases hlt : i < l.length
    · have hltz : (i : Int) < (l.length : Int) := by omega
      obtain ⟨ad, e, h0, h1, h2, h3, h4⟩ := at_T38 (Kd.C_below HC.out HB.out) (i : Int) (by omega) hltz
      rw [rdT38_at l i hlt] at h0 h1 h2 h3 h4
      cases e
      rw [Int.toNat_natCast] at h0 h1 h2 h3 h4
      obtain ⟨o, ho⟩ : ∃ o, o = l[i] := ⟨_, rfl⟩
      rw [← ho] at h0 h1 h2 h3 h4
      clear ho
      have hx := HX.out
      have t0 : wr.cell? ⟨tb, 0, none⟩ = some (.int .i64 S.cap) := by rw [blk_cell hx]; rfl
      have t1 : wr.cell? ⟨tb, 1, none⟩ = some (.slice A S.ents.length c) := by rw [blk_cell hx]; rfl
      have t2 : wr.cell? ⟨tb, 2, none⟩ = some (.int .i64 S.hits) := by rw [blk_cell hx]; rfl
      have t3 : wr.cell? ⟨tb, 3, none⟩ = some (.int .i64 S.miss) := by rw [blk_cell hx]; rfl
      have hbo := below_alloc (Below.refl wr.heap.size wr) (.cells #[.int .i64 o.f0, .int .i64 o.f1, .int .i64 o.f2, .int .i64 o.f3, .string o.f4] 38)
      have hst := step_calls W _ g i F S o _ (HB.out.trans (hbo.mono hszr)) (HP.out.below hbo) HF.out (by omega) (Kd.R_below HR.out hbo)
      have hx4 := blk_below hx hbo
      have hne : some tb ≠ (Value.slice A S.ents.length c).ownBlock := Kd.R_ne HR.out hx (by decide)
      have HX4 := Aside0.mk hx4
      have hsz4 := size_alloc1 wr (.cells #[.int .i64 o.f0, .int .i64 o.f1, .int .i64 o.f2, .int .i64 o.f3, .string o.f4] 38)
      unfold encO at hst
      have HST := Aside0.mk hst
      clear hst hx hx4 hbo
      go_wp2_with fail
      refine HST.out.mono ?_
      rintro e W6 ⟨v1, rfl, F6, hP6, hR6, hB6, hK6, hF6⟩
      obtain ⟨S6, hS6⟩ : ∃ S6, S6 = doS o S := ⟨_, rfl⟩
      have HF6 := Aside0.mk (HF.out.do o)
      rw [← hS6] at hP6 hR6 HF6
      rw [← hS6]
      obtain ⟨A6, c6, hv6, _, _⟩ := Kd.R_reads hR6
      rw [pgs_len] at hv6
      subst hv6
      have hx6 := blk_kept HX4.out hK6 (fun z => z.elim HN.out hne)
      have hlt6 : tb < W6.heap.size := blk_lt hx6
      have z0 : W6.cell? ⟨tb, 0, none⟩ = some (.int .i64 S.cap) := by rw [blk_cell hx6]; rfl
      have z1 : W6.cell? ⟨tb, 1, none⟩ = some (.slice A S.ents.length c) := by rw [blk_cell hx6]; rfl
      have z2 : W6.cell? ⟨tb, 2, none⟩ = some (.int .i64 S.hits) := by rw [blk_cell hx6]; rfl
      have z3 : W6.cell? ⟨tb, 3, none⟩ = some (.int .i64 S.miss) := by rw [blk_cell hx6]; rfl
      have f0 := blk_frozen hx6 0
      have f1 := blk_frozen hx6 1
      have f2 := blk_frozen hx6 2
      have f3 := blk_frozen hx6 3
      have hn6 : ¬ F6 tb := fun z => (hF6 tb z).elim HN.out (fun y => by omega)
      have hr6 : some tb ≠ (Value.slice A6 S6.ents.length c6).ownBlock := Kd.R_ne hR6 hx6 (by decide)
      have hbk := w4_blk (a0 := .int .i64 S6.cap) (a1 := .slice A6 S6.ents.length c6) (a2 := .int .i64 S6.hits) (a3 := .int .i64 S6.miss) hx6
      have hk7 := w4_kept W6 tb (.int .i64 S6.cap) (.slice A6 S6.ents.length c6) (.int .i64 S6.hits) (.int .i64 S6.miss)
      have hb7 := w4_below W6 W.heap.size tb hWt (.int .i64 S6.cap) (.slice A6 S6.ents.length c6) (.int .i64 S6.hits) (.int .i64 S6.miss)
      obtain ⟨W7, hW7⟩ : ∃ W7, W7 = w4 W6 tb (.int .i64 S6.cap) (.slice A6 S6.ents.length c6) (.int .i64 S6.hits) (.int .i64 S6.miss) := ⟨_, rfl⟩
      rw [← hW7] at hbk hk7 hb7
      have hP7 := hP6.move (fun k hk => hk7.2 k (hP6.range k hk).2 (fun z => hn6 (z ▸ hk))) hk7.1
      have hR7 : Kd.R k70 70 W7 W.heap.size (fun k => ¬ F6 k) (.slice A6 S6.ents.length c6) (pgs S6.ents) := Kd.R_mono (Kd.R_move (Kd.R_mono (Kd.R_bound (Kd.R_tight rfl hR6)) (fun k hk => (⟨hk.1.symm, hk.2.2.1⟩ : (Value.slice A6 S6.ents.length c6).ownBlock = some k ∧ k < W6.heap.size))) (fun k hk => hk7.2 k hk.2 (fun z => hr6 (by rw [← z]; exact hk.1.symm)))) (fun k hk => hR6.1 k hk.1)
      have HP7 := Aside0.mk hP7
      have HR7 := Aside0.mk hR7
      have HX7 := Aside0.mk hbk
      have HB7 := Aside0.mk (hB6.trans hb7)
      have HN7 := Aside0.mk hn6
      have hs7 : tb < W7.heap.size := by have := hk7.1; omega
      have HW7 := Aside0.mk hW7
      clear hP6 hR6 hB6 hK6 hF6 hS6 hx6 hn6 hr6 hbk hk7 hb7 hP7 hR7 hW7 HST HP HR HX HN HB t0 t1 t2 t3 h0 h1 h2 h3 h4 HX4
      go_wp2_with fail
      have hba := below_alloc (Below.refl W7.heap.size W7) (.cells #[.int .i64 S6.cap, .slice A6 S6.ents.length c6, .int .i64 S6.hits, .int .i64 S6.miss] 54)
      have hC7 := (Kd.R_reads' HR7.out).2.2
      rw [pgs_len] at hC7
      have hcall := same_calls _ W.heap.size g F6 S6 S6.cap A6 c6 (HP7.out.below hba) HF6.out.small (Kd.C_below hC7 hba)
      have HBA := Aside0.mk hba
      rw [HW7.out] at hcall
      have HCALL := Aside0.mk hcall
      clear hba hC7 hcall
      refine HCALL.out.mono ?_
      rintro e W8 ⟨rfl, hb8⟩
      rw [← HW7.out] at hb8
      have hb78 := HBA.out.trans (hb8.mono HBA.out.size)
      have HP8 := Aside0.mk (HP7.out.below hb78)
      have HR8 := Aside0.mk (Kd.R_below HR7.out hb78)
      have HX8 := Aside0.mk (blk_below HX7.out hb78)
      have HB8 := Aside0.mk (HB7.out.trans (hb78.mono HB7.out.size))
      have hs8 : tb < W8.heap.size := by have := hb78.size; omega
      clear hb8 hb78 HCALL HBA HP7 HR7 HX7 HB7 HW7 z0 z1 z2 z3 f0 f1 f2 f3
      go_wp2_with fail
      go_roundg (l.length - (i + 1))
      case measure => omega
      case rel => exact ⟨i + 1, F6, S6, A6, c6, by go_num, by omega, Nat.le_refl _, hs8, HP8, HF6, HR8, HX8, HN7, HB8⟩
    · obtain rfl : i = l.length := by omega
      go_wp2_with fail
      go_ret
      exact ⟨rfl, HB.out⟩
end Go.Proofs.Ytlfmlmnpbcidnaa.PG

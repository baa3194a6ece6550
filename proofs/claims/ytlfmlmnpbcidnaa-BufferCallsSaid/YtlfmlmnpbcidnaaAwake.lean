/- The example of the chapter, a pool of the start, and BufferSizes. -/
import Derived.Test.YtlfmlmnpbcidnaaDo
import Derived.BigQuiet
namespace Go.Proofs.Ytlfmlmnpbcidnaa.PG
open Go.RowKit Go.Proofs.YtlfmlmnpbcidnaaW.PrintWords Go.Proofs.YtlfmlmnpbcidnaaW.PrintLast Go.Proofs.YtlfmlmnpbcidnaaW.PrintMore
set_option linter.unusedVariables false
set_option linter.unusedSimpArgs false
/-! ### awake, start -/
set_option maxHeartbeats 4000000 in
set_option maxRecDepth 100000 in
theorem start_calls (W : World) (c : Int) (h0 : 0 ≤ c) (h1 : c < 256) :
    Calls Try.prog 16 #[.int .u8 c] W fun e W' => e = .returned (.tuple #[.pointer (some ⟨W.heap.size + 1, 0, none⟩), .int .i64 (1 + c % 8)]) ∧ PoolIs W' W.heap.size (W.heap.size + 1) (fun k => k = W.heap.size ∨ k = W.heap.size + 1) ⟨1 + c % 8, [], 0, 0⟩ ∧ Below W.heap.size W W' := by
  have HN := Aside0.mk (new_calls W (1 + c % 8) (by
    have h3 : ¬ (1 + c % 8 < 1) := by omega
    have h4 : ¬ (4096 < 1 + c % 8) := by omega
    rw [decide_eq_false h3, decide_eq_false h4]; rfl))
  go_enter Try.func16, Try.ntmps16
  go_wp2_with fail
  refine HN.out.mono ?_
  rintro e W1 ⟨rfl, hP1, hb1⟩
  have HP1 := Aside0.mk hP1
  have HB1 := Aside0.mk hb1
  clear hP1 hb1 HN
  go_wp2_with fail
  go_ret2
  exact ⟨rfl, HP1.out, HB1.out⟩
theorem fine0 (n : Int) (h0 : 1 ≤ n) (h1 : n ≤ 8) : Fine 0 ⟨n, [], 0, 0⟩ := ⟨h0, h1, by show ((0 : Nat) : Int) ≤ n; omega, ⟨Int.le_refl _, Int.le_refl _⟩, ⟨Int.le_refl _, Int.le_refl _⟩, List.nodup_nil⟩
def aw0 : PoolS := ⟨2, [], 0, 0⟩
def aw1 : PoolS := putS ⟨7, 1⟩ ⟨⟨#[97]⟩, 1⟩ aw0
def aw2 : PoolS := putS ⟨7, 2⟩ ⟨⟨#[98]⟩, 1⟩ aw1
def aw3 : PoolS := getS ⟨7, 1⟩ aw2
def aw4 : PoolS := putS ⟨7, 3⟩ ⟨⟨#[99]⟩, 1⟩ aw3
theorem aw_get : getR ⟨7, 1⟩ aw2 = (⟨⟨#[97]⟩, 1⟩, true) := by kernel_rfl
theorem aw_keys : keys aw4.ents = [⟨7, 1⟩, ⟨7, 3⟩] := by kernel_rfl
theorem fine1 : Fine 0 aw1 := (fine0 2 (by decide) (by decide)).put _ _
theorem fine2 : Fine 0 aw2 := fine1.put _ _
theorem fine3 : Fine 1 aw3 := fine2.get _
theorem sizeB (a : UInt8) : (⟨#[a]⟩ : ByteArray).size = 1 := rfl
set_option maxHeartbeats 4000000 in
set_option maxRecDepth 100000 in
theorem awake_calls (W : World) :
    Calls Try.prog 10 #[] W fun e W' => e = .returned (.bool true) ∧ Below W.heap.size W W' := by
  go_enter Try.func10, Try.ntmps10
  go_wp2_with fail
  refine (new_calls W 2 (by decide)).mono ?_
  rintro e W1 ⟨rfl, hP1, hb1⟩
  have HP1 := Aside0.mk (put_calls W1 W.heap.size (W.heap.size + 1) _ aw0 ⟨7, 1⟩ ⟨⟨#[97]⟩, 1⟩ hP1 (by decide))
  have HB1 := Aside0.mk hb1
  clear hP1 hb1
  go_wp2_with fail
  refine HP1.out.mono ?_
  rintro e W2 ⟨rfl, F2, hP2, _, _, hb2⟩
  have HP2 := Aside0.mk (put_calls W2 W.heap.size (W.heap.size + 1) _ aw1 ⟨7, 2⟩ ⟨⟨#[98]⟩, 1⟩ hP2 (by have := fine1.small; omega))
  have HB2 := Aside0.mk (HB1.out.trans hb2)
  clear hP2 hb2 HP1 HB1
  go_wp2_with fail
  refine HP2.out.mono ?_
  rintro e W3 ⟨rfl, F3, hP3, _, _, hb3⟩
  have hg := get_calls W3 W.heap.size (W.heap.size + 1) 0 _ aw2 ⟨7, 1⟩ hP3 fine2 (by decide)
  rw [aw_get] at hg
  have HP3 := Aside0.mk hg
  have HB3 := Aside0.mk (HB2.out.trans hb3)
  clear hP3 hb3 HP2 HB2 hg
  go_wp2_with fail
  refine HP3.out.mono ?_
  rintro e W4 ⟨rfl, F4, hP4, _, _, hb4⟩
  have HP4 := Aside0.mk (put_calls W4 W.heap.size (W.heap.size + 1) _ aw3 ⟨7, 3⟩ ⟨⟨#[99]⟩, 1⟩ hP4 (by have := fine3.small; omega))
  have HB4 := Aside0.mk (HB3.out.trans hb4)
  clear hP4 hb4 HP3 HB3
  go_wp2_with fail
  refine HP4.out.mono ?_
  rintro e W5 ⟨rfl, F5, hP5, _, _, hb5⟩
  have HP5 := Aside0.mk (places_calls W5 W.heap.size (W.heap.size + 1) _ aw4 hP5)
  have HB5 := Aside0.mk (HB4.out.trans hb5)
  clear hP5 hb5 HP4 HB4
  go_wp2_with fail
  refine HP5.out.mono ?_
  rintro e W6 ⟨v, rfl, hR, hb6⟩
  have HB6 := Aside0.mk (HB5.out.trans (hb6.mono HB5.out.size))
  rw [aw_keys] at hR
  obtain ⟨rb, c, hv, hrow, _, _, _⟩ := R_row hR (by simp)
  subst hv
  have r0 : W6.cell? ⟨rb, 0, none⟩ = some (.int .i64 7) := (hrow.cells 0 (by decide)).1
  have r1 : W6.cell? ⟨rb, 1, none⟩ = some (.int .i64 1) := (hrow.cells 0 (by decide)).2
  have r2 : W6.cell? ⟨rb, 2, none⟩ = some (.int .i64 7) := (hrow.cells 1 (by decide)).1
  have r3 : W6.cell? ⟨rb, 3, none⟩ = some (.int .i64 3) := (hrow.cells 1 (by decide)).2
  clear hR hb6 hrow HP5 HB5
  go_wp2_with fail
  go_ret
  exact ⟨rfl, HB6.out⟩
/-! ### BufferSizes -/
set_option maxHeartbeats 4000000 in
set_option maxRecDepth 100000 in
theorem sizes_calls (W : World) (n : Int) :
    Calls Try.prog 3 #[.int .i64 n] W fun e W' => e = .returned (.bool true) ∧ Below W.heap.size W W' := by
  cases hn : (decide (n < 1) || decide (4096 < n)) with
  | true =>
    have HN := Aside0.mk hn
    clear hn
    go_enter Try.func3, Try.ntmps3
    go_wp2_with fail
    refine (awake_calls W).mono ?_
    rintro e W1 ⟨rfl, hb1⟩
    have HB1 := Aside0.mk hb1
    clear hb1
    go_wp2_with fail
    refine (new_no W1 n HN.out).mono ?_
    rintro e W2 ⟨rfl, rfl⟩
    have hd := HN.out
    go_wp2_with fail
    all_goals (go_ret; exact ⟨rfl, HB1.out⟩)
  | false =>
    have HN := Aside0.mk hn
    have h1 : decide (n < 1) = false := by cases h : decide (n < 1) <;> simp_all
    have h2 : decide (4096 < n) = false := by cases h : decide (4096 < n) <;> simp_all
    clear hn
    go_enter Try.func3, Try.ntmps3
    go_wp2_with fail
    refine (awake_calls W).mono ?_
    rintro e W1 ⟨rfl, hb1⟩
    have HB1 := Aside0.mk hb1
    clear hb1
    go_wp2_with fail
    refine (new_calls W1 n HN.out).mono ?_
    rintro e W2 ⟨rfl, hP2, hb2⟩
    have HP2 := Aside0.mk hP2
    have HB2 := Aside0.mk (HB1.out.trans (hb2.mono HB1.out.size))
    clear hP2 hb2 HB1
    go_wp2_with fail
    refine (len_calls W2 _ _ _ _ HP2.out).mono ?_
    rintro e W3 ⟨rfl, hb3⟩
    have HP3 := Aside0.mk (HP2.out.below hb3)
    have HB3 := Aside0.mk (HB2.out.trans (hb3.mono HB2.out.size))
    clear hb3 HP2 HB2
    go_wp2_with fail
    refine (places_calls W3 _ _ _ _ HP3.out).mono ?_
    rintro e W4 ⟨v, rfl, hR, hb4⟩
    obtain ⟨A, c, hv, _, _⟩ := Kd.R_reads hR
    subst hv
    have HP4 := Aside0.mk (HP3.out.below hb4)
    have HB4 := Aside0.mk (HB3.out.trans (hb4.mono HB3.out.size))
    clear hb4 HP3 HB3 hR
    go_wp2_with fail
    refine (hits_calls W4 _ _ _ _ HP4.out).mono ?_
    rintro e W5 ⟨rfl, hb5⟩
    have HB5 := Aside0.mk (HB4.out.trans (hb5.mono HB4.out.size))
    clear hb5 HP4 HB4
    go_wp2_with fail
    go_ret
    exact ⟨rfl, HB5.out⟩
end Go.Proofs.Ytlfmlmnpbcidnaa.PG

/- The walk of DeviceReturns. -/
import Derived.Test.YtflajmgichdhhaaAwake
import Derived.BigQuiet


namespace Go.Proofs.Ytflajmgichdhhaa.PG
open Go.RowKit Go.Proofs.YtflajmgichdhhaaW.PrintWords Go.Proofs.YtflajmgichdhhaaW.PrintLast Go.Proofs.YtflajmgichdhhaaW.PrintMore

set_option linter.unusedVariables false
set_option linter.unusedSimpArgs false
attribute [local go_sem] max2_int min2_int max_two min_two
/-! ### DeviceReturns -/
/-- A device of one sector without anything pending: its content x, and what it had before, the last first. -/
def retS (x : ByteArray) (r : List ByteArray) : DevS := ⟨[x], [r.take 8], [], fun _ => none, false, 0, [], false⟩
theorem ret_new : newS 1 = retS (fullS ⟨#[]⟩) [] := by
  have e : fullS ⟨#[]⟩ = zeros140 := by kernel_rfl
  rw [e]
  rfl
theorem cut_whole (d s : ByteArray) (hd : d.size = 140) (hs : s.size = 140) : cut d s 140 = d := by
  unfold cut
  apply ByteArray.ext
  simp
  have h1 : d.data.extract 0 140 = d.data := Array.extract_eq_self_of_le (show d.size ≤ 140 by omega)
  have h2 : s.data.extract 140 s.size = #[] := by apply Array.extract_empty_of_stop_le_start; omega
  rw [h1, h2]
  simp
theorem ret_write (x y : ByteArray) (r : List ByteArray) (hy : y.size = 140) : writeS (retS x r) 1 0 0 y = (0, pushS (retS x r) ⟨1, 0, y⟩) := by
  unfold writeS
  rw [if_pos ⟨by decide, hy⟩, if_pos ⟨by decide, by show (0 : Int) < ((1 : Nat) : Int); decide⟩]
  have e : admitS (retS x r) 1 0 = (0, retS x r) := rfl
  rw [e, if_pos rfl]
theorem ret_sync (x y : ByteArray) (r : List ByteArray) (hx : x.size = 140) (hy : y.size = 140) : syncS (pushS (retS x r) ⟨1, 0, y⟩) 1 0 = (0, if x = y then retS x r else retS y (x :: r)) := by
  unfold syncS
  rw [if_pos (by decide)]
  have e : admitS (pushS (retS x r) ⟨1, 0, y⟩) 1 0 = (0, pushS (retS x r) ⟨1, 0, y⟩) := rfl
  rw [e, if_pos rfl]
  congr 1
  unfold finishS
  have e1 : (pushS (retS x r) ⟨1, 0, y⟩).pend = [⟨1, 0, y⟩] := rfl
  simp only [e1]
  have e2 : endF (isOf 1) (List.replicate [(⟨1, 0, y⟩ : S99)].length 140) [⟨1, 0, y⟩] (0, pushS (retS x r) ⟨1, 0, y⟩) = (1, changeS 0 (cut y x 140) (pushS (retS x r) ⟨1, 0, y⟩)) := rfl
  rw [e2, cut_whole y x hy hx]
  unfold changeS
  have e3 : (pushS (retS x r) ⟨1, 0, y⟩).stable.getD 0 ⟨#[]⟩ = x := rfl
  rw [e3]
  by_cases h : x = y
  · rw [if_pos h, if_pos h]; rfl
  · rw [if_neg h, if_neg h]
    have e4 : ((pushS (retS x r) ⟨1, 0, y⟩).old.getD 0 []) = r.take 8 := rfl
    rw [e4]
    have e5 : (x :: r.take 8).take 8 = (x :: r).take 8 := by
      rw [List.take_cons (by decide), List.take_cons (by decide), List.take_take]
      rfl
    rw [e5]
    rfl
theorem fine_ret (x : ByteArray) (r : List ByteArray) (hx : x.size = 140) (hr : ∀ s ∈ r, s.size = 140) : Fine 0 (retS x r) :=
  { len := rfl
    n0 := Nat.le_refl _
    n1 := by show 1 ≤ 1155; decide
    size := fun s hs => by rw [List.mem_singleton.1 (show s ∈ [x] from hs)]; exact hx
    olen := fun l hl => by rw [List.mem_singleton.1 (show l ∈ [r.take 8] from hl)]; exact List.length_take_le _ _
    osize := fun l hl s hs => by rw [List.mem_singleton.1 (show l ∈ [r.take 8] from hl)] at hs; exact hr s (List.mem_of_mem_take hs)
    pend := fun w hw => by cases hw
    plen := Nat.le_refl _
    l0 := ⟨Int.le_refl _, by show (0 : Int) ≤ _; decide⟩ }
theorem fine_push (x y : ByteArray) (r : List ByteArray) (hx : x.size = 140) (hr : ∀ s ∈ r, s.size = 140) (hy : y.size = 140) : Fine 1 (pushS (retS x r) ⟨1, 0, y⟩) := by
  have h := fine_w (fine_ret x r hx hr) 1 0 0 y
  rw [ret_write x y r hy] at h
  exact h
theorem ret_old (x : ByteArray) (r : List ByteArray) : oldN (retS x r) 0 = ((min r.length 8 : Nat) : Int) := by
  unfold oldN
  rw [if_pos ⟨by decide, by show (0 : Int) < ((1 : Nat) : Int); decide⟩]
  show (((r.take 8).length : Nat) : Int) = _
  rw [List.length_take, Nat.min_comm]
theorem ret_back (x : ByteArray) (r : List ByteArray) (k : Nat) (h1 : 1 ≤ k) (h2 : k ≤ min r.length 8) : returnS (retS x r) 0 (k : Int) = (0, { retS x r with stable := [r.getD (k - 1) ⟨#[]⟩] }) := by
  unfold returnS
  have e : (retS x r).old.getD (0 : Int).toNat [] = r.take 8 := rfl
  rw [e, if_pos ⟨⟨by decide, by show (0 : Int) < ((1 : Nat) : Int); decide⟩, by omega, by rw [List.length_take]; omega⟩]
  congr 1
  have e2 : (r.take 8).getD ((k : Int) - 1).toNat ⟨#[]⟩ = r.getD (k - 1) ⟨#[]⟩ := by
    rw [show ((k : Int) - 1).toNat = k - 1 by omega, List.getD_eq_getElem?_getD, List.getD_eq_getElem?_getD, List.getElem?_take_of_lt (by omega)]
  rw [e2]
  rfl
theorem ret_none (x : ByteArray) : returnS (retS x []) 0 1 = (2, retS x []) := rfl
theorem rev_last (x : ByteArray) (r : List ByteArray) : (x :: r).reverse.length = r.length + 1 := by simp
theorem rev_at (x : ByteArray) (r : List ByteArray) (k : Nat) (h : k < r.length + 1) : rdOf ByteArray.empty (x :: r).reverse ((r.length - k : Nat) : Int) = (x :: r).getD k ⟨#[]⟩ := by
  unfold rdOf
  rw [Int.toNat_natCast, List.getD_eq_getElem?_getD, List.getElem?_reverse (by simp; omega), List.getD_eq_getElem?_getD]
  have e : (x :: r).length - 1 - (r.length - k) = k := by simp; omega
  rw [e]
  rfl
set_option maxHeartbeats 4000000 in
set_option maxRecDepth 100000 in
theorem returns_calls (W : World) (A0 : Option Addr) (c0 : Nat) (l : List ByteArray) (hC : Kd.C Kd.string W A0 l.length l) (back : Int) (hb0 : 0 ≤ back) (hb1 : back < 256) :
    Calls Try.prog 7 #[.slice A0 l.length c0, .int .u8 back] W fun e W' => e = .returned (.bool true) ∧ Below W.heap.size W W' := by
  have HC := Aside0.mk hC
  clear hC
  by_cases hl : 20 < (l.length : Int)
  · have hd : decide (20 < (l.length : Int)) = true := decide_eq_true hl
    clear hl
    go_enter Try.func7, Try.ntmps7
    go_wp2_with fail
    refine (awake_calls W).mono ?_
    rintro e W1 ⟨rfl, hb1'⟩
    have HB1 := Aside0.mk hb1'
    clear hb1'
    go_wp2_with fail
    refine (awake_calls W1).mono ?_
    rintro e W2 ⟨rfl, hb2⟩
    have HB2 := Aside0.mk (HB1.out.trans (hb2.mono HB1.out.size))
    clear hb2
    go_wp2_with fail
    go_ret
    exact ⟨rfl, HB2.out⟩
  · have hd : decide (20 < (l.length : Int)) = false := decide_eq_false hl
    have hl20 : l.length ≤ 20 := by omega
    clear hl
    have E1 := Aside0.mk (show ∀ k, Calls Try.prog 19 #[.string ⟨#[]⟩] k fun e W' => e = .returned (.string (fullS ⟨#[]⟩)) ∧ Below k.heap.size k W' from fun k => full_calls k _)
    have HS0 := Aside0.mk (fullS_size ⟨#[]⟩)
    go_enter Try.func7, Try.ntmps7
    go_wp2_with fail
    refine (awake_calls W).mono ?_
    rintro e W1 ⟨rfl, hb1'⟩
    have HB1 := Aside0.mk hb1'
    clear hb1'
    go_wp2_with fail
    refine (new_calls W1 1 (by decide) (by decide)).mono ?_
    rintro e W2 ⟨L, F, rfl, hI, hb2⟩
    rw [ret_new] at hI
    have HI2 := Aside0.mk (hI.lower HB1.out.size)
    have HB2 := Aside0.mk (HB1.out.trans (hb2.mono HB1.out.size))
    clear hI hb2 HB1
    obtain ⟨wb, hwb⟩ : ∃ wb, wb = W2.heap.size := ⟨_, rfl⟩
    go_wp2_with fail
    have hx3 := blk_new W2 (.cells #[.int .i64 1, .int .i64 0] 35)
    have hb3 := below_alloc (Below.refl W2.heap.size W2) (.cells #[.int .i64 1, .int .i64 0] 35)
    obtain ⟨W3, hW3⟩ : ∃ W3, W3 = W2.alloc (.cells #[.int .i64 1, .int .i64 0] 35) := ⟨_, rfl⟩
    rw [← hW3] at hx3 hb3 ⊢
    rw [← hwb] at hx3 ⊢
    have HI3 := Aside0.mk (HI2.out.below hb3)
    have HB3 := Aside0.mk (HB2.out.trans (hb3.mono HB2.out.size))
    have HX3 := Aside0.mk hx3
    have HN3 := Aside0.mk (show ¬ F wb from fun z => by have := (HI2.out.range _ z).2; omega)
    clear hW3 hwb hx3 hb3 HI2 HB2
    refine (E1.out W3).mono ?_
    rintro e W4 ⟨rfl, hb4⟩
    have HI4 := Aside0.mk (HI3.out.below hb4)
    have HB4 := Aside0.mk (HB3.out.trans (hb4.mono HB3.out.size))
    have HX4 := Aside0.mk (blk_below HX3.out hb4)
    clear hb4 HI3 HB3 HX3
    obtain ⟨x0, hx0⟩ : ∃ x0, x0 = fullS ⟨#[]⟩ := ⟨_, rfl⟩
    rw [← hx0] at HI4 HS0 ⊢
    clear hx0
    go_wp2_with (first | ((with_reducible refine gate_dst (N := 36) rfl ?_); refine Kd.R_lit Kd.string (w0 := W4) W4.heap.size 9 ?hg (N := 36) ?hd (xs := [x0]) (inner := [.string x0]) (ok := fun k => W4.heap.size ≤ k) (okp := fun _ => False) ?hr ?hp (fun _ hk => hk.elim) (Nat.le_refl _) (Below.refl _ _) (Nat.le_refl _) (by simp) ?_; (case hd => rfl); (case hg => rfl); (case hr => first | (go_simp; done) | (go_simp; rfl)); (case hp => exact Reps.one (show [Value.string x0] = [Value.string x0] from rfl) (Reps.none _ _)); intro v5 W5 hR5 hb5 hg5 hnew5; obtain ⟨A5, c5, hv5, _, _⟩ := Kd.R_reads hR5; subst hv5; have HR5 := Aside0.mk hR5; have HB5 := Aside0.mk hb5; clear hR5 hb5 hg5 hnew5) | fail)
    have HI5 := Aside0.mk (HI4.out.below HB5.out)
    have HX5 := Aside0.mk (blk_below HX4.out HB5.out)
    have HBB5 := Aside0.mk (HB4.out.trans (HB5.out.mono HB4.out.size))
    have hW4 : W.heap.size ≤ W4.heap.size := HB4.out.size
    have HF5 := Aside0.mk (show ∀ k, W4.heap.size ≤ k → ¬ F k from fun k hk z => by have := (HI4.out.range _ z).2; omega)
    go_loopg [8, 39] l.length (fun gg s8 s39 wr => ∃ (j : Nat) (x : ByteArray) (r : List ByteArray) (F : Nat → Prop) (A : Option Addr) (c : Nat), s39 = .int .i64 j ∧ s8 = .slice A (r.length + 1) c ∧ j ≤ l.length ∧ l.length - j ≤ gg ∧ r.length ≤ j ∧ Aside0 (x.size = 140) ∧ Aside0 (∀ s ∈ r, s.size = 140) ∧ Aside0 (DevIs wr W.heap.size L F (retS x r)) ∧ Aside0 (Kd.R Kd.string 9 wr W.heap.size (fun k => ¬ F k) (.slice A (r.length + 1) c) (x :: r).reverse) ∧ Aside0 (wr.heap[wb]? = some (.cells #[.int .i64 1, .int .i64 0] 35 (0, 0))) ∧ Aside0 (¬ F wb) ∧ Aside0 (Below W.heap.size W wr))
    case atStart => exact ⟨0, x0, [], F, A5, c5, by go_num, rfl, Nat.zero_le _, by omega, Nat.le_refl _, HS0, ⟨fun s hs => by cases hs⟩, HI5, ⟨Kd.R_mono (Kd.R_lower HR5.out hW4) (fun k hk => HF5.out k hk)⟩, HX5, HN3, HBB5⟩
    case round =>
      clear HI4 HB4 HX4 HR5 HB5 HI5 HX5 HBB5 HF5 HN3 HS0
      obtain ⟨j, x, r, F, A, c, rfl, rfl, hj, hgg, hrj, HSX, HSR, HI, HR, HX, HN, HB⟩ := hrel
      obtain ⟨hn1, hnc, hCh⟩ := Kd.R_reads' HR.out
      rw [rev_last] at hCh
      have HCH := Aside0.mk hCh
      have HCN := Aside0.mk (show r.length + 1 ≤ c from hnc)
      clear hn1 hnc hCh
      by_cases hlt : j < l.length
      · have hltz : (j : Int) < (l.length : Int) := by omega
        obtain ⟨ad, e, h0⟩ := Kd.at_string (Kd.C_below HC.out HB.out) (j : Int) (by omega) hltz
        rw [Int.toNat_natCast] at h0
        obtain ⟨s, hs⟩ : ∃ s, s = rdOf ByteArray.empty l (j : Int) := ⟨_, rfl⟩
        rw [← hs] at h0
        subst e
        clear hs
        have HSY := Aside0.mk (fullS_size s)
        go_wp2_with fail
        refine (full_calls wr s).mono ?_
        rintro e W6 ⟨rfl, hb6⟩
        obtain ⟨y, hy⟩ : ∃ y, y = fullS s := ⟨_, rfl⟩
        rw [← hy] at HSY ⊢
        have HI6 := Aside0.mk (HI.out.below hb6)
        have HR6 := Aside0.mk (Kd.R_below HR.out hb6)
        have HX6 := Aside0.mk (blk_below HX.out hb6)
        have HB6 := Aside0.mk (HB.out.trans (hb6.mono HB.out.size))
        have x6 : W6.cell? ⟨wb, 0, none⟩ = some (.int .i64 1) := by rw [blk_cell HX6.out]; rfl
        have x6' : W6.cell? ⟨wb, 1, none⟩ = some (.int .i64 0) := by rw [blk_cell HX6.out]; rfl
        clear hy hb6 HI HR HX HB HCH h0
        go_wp2_with fail
        have hw := write_calls HI6.out (fine_ret x r HSX.out HSR.out) (by decide) (by show 0 ≤ _; decide) 1 0 0 y
        rw [ret_write x y r HSY.out] at hw
        refine hw.mono ?_
        rintro e W7 ⟨rfl, F7, hI7, hF7, hk7, hb7⟩
        have hR7 := Kd.R_keptB HR6.out hk7 (fun k hk => hk)
        have HI7 := Aside0.mk hI7
        have HR7 := Aside0.mk (Kd.R_mono hR7 (fun k hk => fun z => (hF7 k z).elim hk.1 (fun y => by have := hk.2.2; omega)))
        have HX7 := Aside0.mk (blk_kept HX6.out hk7 HN.out)
        have HN7 := Aside0.mk (show ¬ F7 wb from fun z => (hF7 wb z).elim HN.out (fun y => by have := blk_lt HX6.out; omega))
        have HB7 := Aside0.mk (HB6.out.trans hb7)
        have x7 : W7.cell? ⟨wb, 0, none⟩ = some (.int .i64 1) := by rw [blk_cell HX7.out]; rfl
        have x7' : W7.cell? ⟨wb, 1, none⟩ = some (.int .i64 0) := by rw [blk_cell HX7.out]; rfl
        clear hw hI7 hF7 hk7 hb7 hR7 HI6 HR6 HX6 HB6 HN x6 x6'
        go_wp2_with fail
        have hw := sync_calls HI7.out (fine_push x y r HSX.out HSR.out HSY.out) (by decide) (by show 0 ≤ _; decide) 1 0
        rw [ret_sync x y r HSX.out HSY.out] at hw
        refine hw.mono ?_
        rintro e W8 ⟨rfl, F8, hI8, hF8, hk8, hb8⟩
        have hR8 := Kd.R_keptB HR7.out hk8 (fun k hk => hk)
        have hR8 := Kd.R_mono hR8 (fun k hk => (show ¬ F8 k from fun z => (hF8 k z).elim hk.1 (fun y => by have := hk.2.2; omega)))
        have HX8 := Aside0.mk (blk_kept HX7.out hk8 HN7.out)
        have HN8 := Aside0.mk (show ¬ F8 wb from fun z => (hF8 wb z).elim HN7.out (fun y => by have := blk_lt HX7.out; omega))
        have HB8 := Aside0.mk (HB7.out.trans hb8)
        have hCh := (Kd.R_reads' hR8).2.2
        rw [rev_last] at hCh
        obtain ⟨ad2, e2, q0⟩ := Kd.at_string hCh (r.length : Int) (by omega) (by omega)
        have hrv := rev_at x r 0 (by omega)
        rw [Nat.sub_zero] at hrv
        rw [hrv, Int.toNat_natCast] at q0
        have q0 : W8.cell? (ad2.add r.length) = some (.string x) := q0
        have HI8 := Aside0.mk hI8
        have HR8 := Aside0.mk hR8
        have hz1 : ((r.length + 1 : Nat) : Int) - 1 = (r.length : Int) := by omega
        have hz2 : (r.length : Int) < ((r.length + 1 : Nat) : Int) := by omega
        subst e2
        clear hw hI8 hF8 hk8 hb8 hR8 HI7 HR7 HX7 HB7 HN7 x7 x7' hrv hCh
        by_cases hxy : x = y
        · have hbq : (y.toList == x.toList) = true := bytes_yes hxy.symm
          have HI9 := Aside0.mk (show DevIs W8 W.heap.size L F8 (retS x r) by have := HI8.out; rw [if_pos hxy] at this; exact this)
          clear hxy HI8
          go_wp2_with fail
          go_roundg (l.length - (j + 1))
          case measure => omega
          case rel => exact ⟨j + 1, x, r, F8, _, c, by go_num, rfl, by omega, Nat.le_refl _, by omega, HSX, HSR, HI9, HR8, HX8, HN8, HB8⟩
        · have hbq : (y.toList == x.toList) = false := bytes_no (fun z => hxy z.symm)
          have HI9 := Aside0.mk (show DevIs W8 W.heap.size L F8 (retS y (x :: r)) by have := HI8.out; rw [if_neg hxy] at this; exact this)
          clear hxy HI8
          go_wp2_with (at_builtin; with_reducible refine stopHere ?_)
          refine ⟨?_⟩
          refine Kd.R_append Kd.string (w0 := W) W.heap.size rfl (.tmp 64) (.tmp 66) 26 9 (.string ⟨#[]⟩) 16 rfl Try.underlying26 info9 rfl (by decide) (by omega) _ (x :: r).reverse y [.string y] (fun k => ¬ F8 k) (fun _ => False) rfl rfl rfl (fun _ h => h.elim) (fun k hk z => by have := (HI9.out.range _ z).2; omega) HR8.out HB8.out HB8.out.size (by rw [rev_last]; omega) ?_
          intro v9 W9 hR9 hb9 hg9 hat9
          have e9 : (x :: r).reverse ++ [y] = (y :: x :: r).reverse := by rw [List.reverse_cons (a := y)]
          rw [e9] at hR9
          have hF9 : ∀ k, F8 k → W9.heap[k]? = W8.heap[k]? := fun k hk => hg9.block k (HI9.out.range _ hk).2 (fun z => HR8.out.1 k z.symm hk)
          have hI9 := HI9.out.move hF9 hg9.size
          have hX9 : W9.heap[wb]? = some (.cells #[.int .i64 1, .int .i64 0] 35 (0, 0)) := blk_grown HX8.out hg9 (fun z => Kd.R_ne HR8.out HX8.out (by decide) z)
          obtain ⟨A9, c9, hv9, _, _⟩ := Kd.R_reads hR9
          rw [rev_last] at hv9
          subst hv9
          have HI9 := Aside0.mk hI9
          have HR9 := Aside0.mk hR9
          have HX9 := Aside0.mk hX9
          have HB9 := Aside0.mk hb9
          clear hR9 hb9 hg9 hat9 e9 hF9 hI9 hX9 HR8 HX8 HB8
          go_wp2_with fail
          go_roundg (l.length - (j + 1))
          case measure => omega
          case rel => exact ⟨j + 1, y, x :: r, F8, A9, c9, by go_num, rfl, by omega, Nat.le_refl _, by simp; omega, HSY, ⟨fun s hs => (List.mem_cons.1 hs).elim (fun z => z ▸ HSX.out) (fun z => HSR.out s z)⟩, HI9, HR9, HX9, HN8, HB9⟩
      · obtain rfl : j = l.length := by omega
        have hO := oldI HI.out rfl 0
        rw [ret_old] at hO
        obtain ⟨n1, n2, n3⟩ := Kd.R_reads' HR.out
        obtain ⟨ad, e, _⟩ := Kd.at_string HCH.out (r.length : Int) (by omega) (by omega)
        subst e
        have hr1 : ((r.length + 1 : Nat) : Int) - 1 = (r.length : Int) := by omega
        clear n1 n2 n3
        by_cases h8 : 8 < (r.length : Int)
        · have hq : min r.length 8 = 8 := by omega
          rw [hq] at hO
          have HO := Aside0.mk hO
          have HQ := Aside0.mk hq
          clear hO hq
          have hq0 : (0 : Int) < 8 := by omega
          have hne0 : ((8 : Int) == 0) = false := beq_eq_false_iff_ne.2 (by omega)
          obtain ⟨b2, hb2⟩ := Int.eq_ofNat_of_zero_le (Int.emod_nonneg back (show (8 : Int) ≠ 0 by omega))
          have hb3 : b2 < 8 := by have h := Int.emod_lt_of_pos back hq0; rw [hb2] at h; omega
          have hbr : b2 + 1 ≤ min r.length 8 := by have := HQ.out; omega
          have HBR := Aside0.mk hbr
          have hbrl : b2 + 1 ≤ r.length := by omega
          clear hbr
          go_wp2_with fail
          refine HO.out.mono ?_
          rintro e W6 ⟨rfl, rfl⟩
          go_wp2_with fail
          have hw := return_calls HI.out (fine_ret x r HSX.out HSR.out) 0 (1 + (b2 : Int))
          rw [show (1 + (b2 : Int)) = ((b2 + 1 : Nat) : Int) by omega, ret_back x r (b2 + 1) (by omega) HBR.out, Nat.add_sub_cancel, show ((b2 + 1 : Nat) : Int) = 1 + (b2 : Int) by omega] at hw
          refine hw.mono ?_
          rintro e W7 ⟨rfl, F7, hI7, hF7, hk7, hb7⟩
          have hR7 := Kd.R_keptB HR.out hk7 (fun k hk => hk)
          have hc7 := (Kd.R_reads' hR7).2.2
          rw [rev_last] at hc7
          obtain ⟨ad3, e3, q9⟩ := Kd.at_string hc7 ((r.length - (b2 + 1) : Nat) : Int) (by omega) (by omega)
          rw [rev_at x r (b2 + 1) (by omega), Int.toNat_natCast] at q9
          obtain ⟨y, hy⟩ : ∃ y, y = r.getD b2 ⟨#[]⟩ := ⟨_, rfl⟩
          have q0 : W7.cell? (ad3.add (r.length - (b2 + 1))) = some (.string y) := by rw [hy]; exact q9
          rw [← hy] at hI7
          cases e3
          have hO7 := oldI hI7 rfl 0
          have eo : oldN { retS x r with stable := [y] } 0 = ((min r.length 8 : Nat) : Int) := ret_old x r
          rw [eo, HQ.out] at hO7
          have hR8 := readI hI7 (by show 0 ≤ _; decide) 0
          have er : readS { retS x r with stable := [y] } 0 = (y, 0) := rfl
          rw [er] at hR8
          have HO7 := Aside0.mk hO7
          have HR8 := Aside0.mk hR8
          have HB7 := Aside0.mk (HB.out.trans hb7)
          have hix : (r.length : Int) - (1 + (b2 : Int)) = ((r.length - (b2 + 1) : Nat) : Int) := by omega
          have hixl : ((r.length - (b2 + 1) : Nat) : Int) < ((r.length + 1 : Nat) : Int) := by omega
          have hyy : (y.toList == y.toList) = true := bytes_yes rfl
          clear q9 hw hI7 hF7 hk7 hb7 hR7 hc7 eo hR8 er hy hO7 hb2 hbrl
          go_wp2_with fail
          refine HO7.out.mono ?_
          rintro e W8 ⟨rfl, rfl⟩
          go_wp2_with fail
          refine HR8.out.mono ?_
          rintro e W9 ⟨rfl, rfl⟩
          go_wp2_with fail
          go_ret
          exact ⟨rfl, HB7.out⟩
        · have hq : min r.length 8 = r.length := by omega
          rw [hq] at hO
          have HO := Aside0.mk hO
          have HQ := Aside0.mk hq
          clear hO hq
          by_cases hr0 : r.length = 0
          · obtain rfl : r = [] := List.eq_nil_of_length_eq_zero hr0
            have h00 : ((([] : List ByteArray).length : Nat) : Int) = 0 := rfl
            go_wp2_with fail
            refine HO.out.mono ?_
            rintro e W6 ⟨rfl, rfl⟩
            go_wp2_with fail
            have hw := return_calls HI.out (fine_ret x [] HSX.out HSR.out) 0 1
            rw [ret_none] at hw
            refine hw.mono ?_
            rintro e W7 ⟨rfl, F7, hI7, hF7, hk7, hb7⟩
            have HB7 := Aside0.mk (HB.out.trans hb7)
            clear hw hI7 hF7 hk7 hb7
            go_wp2_with fail
            go_ret
            exact ⟨rfl, HB7.out⟩
          · have hq0 : (0 : Int) < (r.length : Int) := by omega
            have hne0 : (((r.length : Int) : Int) == 0) = false := beq_eq_false_iff_ne.2 (by omega)
            obtain ⟨b2, hb2⟩ := Int.eq_ofNat_of_zero_le (Int.emod_nonneg back (show ((r.length : Int) : Int) ≠ 0 by omega))
            have hb3 : b2 < r.length := by have h := Int.emod_lt_of_pos back hq0; rw [hb2] at h; omega
            have hbr : b2 + 1 ≤ min r.length 8 := by have := HQ.out; omega
            have HBR := Aside0.mk hbr
            have hbrl : b2 + 1 ≤ r.length := by omega
            clear hbr
            go_wp2_with fail
            refine HO.out.mono ?_
            rintro e W6 ⟨rfl, rfl⟩
            go_wp2_with fail
            have hw := return_calls HI.out (fine_ret x r HSX.out HSR.out) 0 (1 + (b2 : Int))
            rw [show (1 + (b2 : Int)) = ((b2 + 1 : Nat) : Int) by omega, ret_back x r (b2 + 1) (by omega) HBR.out, Nat.add_sub_cancel, show ((b2 + 1 : Nat) : Int) = 1 + (b2 : Int) by omega] at hw
            refine hw.mono ?_
            rintro e W7 ⟨rfl, F7, hI7, hF7, hk7, hb7⟩
            have hR7 := Kd.R_keptB HR.out hk7 (fun k hk => hk)
            have hc7 := (Kd.R_reads' hR7).2.2
            rw [rev_last] at hc7
            obtain ⟨ad3, e3, q9⟩ := Kd.at_string hc7 ((r.length - (b2 + 1) : Nat) : Int) (by omega) (by omega)
            rw [rev_at x r (b2 + 1) (by omega), Int.toNat_natCast] at q9
            obtain ⟨y, hy⟩ : ∃ y, y = r.getD b2 ⟨#[]⟩ := ⟨_, rfl⟩
            have q0 : W7.cell? (ad3.add (r.length - (b2 + 1))) = some (.string y) := by rw [hy]; exact q9
            rw [← hy] at hI7
            cases e3
            have hO7 := oldI hI7 rfl 0
            have eo : oldN { retS x r with stable := [y] } 0 = ((min r.length 8 : Nat) : Int) := ret_old x r
            rw [eo, HQ.out] at hO7
            have hR8 := readI hI7 (by show 0 ≤ _; decide) 0
            have er : readS { retS x r with stable := [y] } 0 = (y, 0) := rfl
            rw [er] at hR8
            have HO7 := Aside0.mk hO7
            have HR8 := Aside0.mk hR8
            have HB7 := Aside0.mk (HB.out.trans hb7)
            have hix : (r.length : Int) - (1 + (b2 : Int)) = ((r.length - (b2 + 1) : Nat) : Int) := by omega
            have hixl : ((r.length - (b2 + 1) : Nat) : Int) < ((r.length + 1 : Nat) : Int) := by omega
            have hyy : (y.toList == y.toList) = true := bytes_yes rfl
            clear q9 hw hI7 hF7 hk7 hb7 hR7 hc7 eo hR8 er hy hO7 hb2 hbrl
            go_wp2_with fail
            refine HO7.out.mono ?_
            rintro e W8 ⟨rfl, rfl⟩
            go_wp2_with fail
            refine HR8.out.mono ?_
            rintro e W9 ⟨rfl, rfl⟩
            go_wp2_with fail
            go_ret
            exact ⟨rfl, HB7.out⟩
end Go.Proofs.Ytflajmgichdhhaa.PG

/- Crash, Sync. -/
import Derived.Test.YtflajmgichdhhaaWr
import Derived.BigQuiet


namespace Go.Proofs.Ytflajmgichdhhaa.PG
open Go.RowKit Go.Proofs.YtflajmgichdhhaaW.PrintWords Go.Proofs.YtflajmgichdhhaaW.PrintLast Go.Proofs.YtflajmgichdhhaaW.PrintMore

set_option linter.unusedVariables false
set_option linter.unusedSimpArgs false
/-! ### Crash, Sync -/
theorem Fine.mono {k k' : Nat} {S : DevS} (h : Fine k S) (hk : k ≤ k') : Fine k' S := { h with plen := Nat.le_trans h.plen hk }
theorem Fine.admit {k : Nat} {S : DevS} (h : Fine k S) (sys ep : Int) : Fine k (admitS S sys ep).2 := by
  unfold admitS
  split
  · exact h
  · split
    · exact h
    · split
      · exact h
      · split
        · have := h.l0; exact { h with l0 := ⟨by show 0 ≤ S.left - 1; omega, by show S.left - 1 ≤ _; omega⟩ }
        · exact h.blown.finish _ _
set_option maxRecDepth 100000 in
theorem crash_calls {W : World} {B : Nat} {L : Lay} {F : Nat → Prop} {S : DevS} {k : Nat} (hI : DevIs W B L F S) (hf : Fine k S) (hk : k ≤ 1000000) (sys : Int) (A : Option Addr) (c : Nat) (l : List Int) (hl : Kd.F (Kd.int .i64) W (fun k => ¬ F k) A l.length l) (hlc : l.length ≤ c) (hlm : l.length ≤ 4611686018427387904) :
    Calls Try.prog 22 #[.pointer (some ⟨L.g, 0, none⟩), .int .i64 sys, .slice A l.length c] W fun e W' => e = .returned (.tuple #[]) ∧ DevPost B L F (finishS (isOf sys) l S) W W' := by
  have hB := hI.hB
  have hrg := hI.range
  have hb1 := below_alloc (Below.refl W.heap.size W) (.cells #[.int .i64 sys] 3)
  obtain ⟨vs, pv, uv, m, hP⟩ := hI
  have hP1 := hP.below hb1
  have hfin := finish_calls hP1 hf hk 62 #[.pointer (some ⟨W.heap.size, 0, none⟩)] (isOf sys) (matchOf _ _ W.heap.size sys (blk_new _ _) (fun z => by have := (hrg _ (hP.own _ z)).2; omega)) A c l
    (Kd.F_mono (Kd.F_below hl hb1) (fun k hk z => hk (hP.own _ z))) hlc hlm
  have HFIN := Aside0.mk hfin
  have HB1 := Aside0.mk hb1
  clear hP hP1 hfin hb1 hl hrg hf
  go_enter Try.func22, Try.ntmps22
  go_wp2_with fail
  refine (of_calls W sys).mono ?_
  rintro e W1 ⟨rfl, hW1⟩
  rw [← hW1] at HFIN HB1
  clear hW1
  go_wp2_with fail
  refine HFIN.out.mono ?_
  rintro e W2 ⟨rfl, hpo⟩
  have HPO := Aside0.mk (hpo.after HB1.out hB)
  clear hpo HFIN
  go_wp2_with fail
  go_end0
  exact ⟨rfl, HPO.out⟩
def ints (xs : List Int) : Array Value := (xs.map (Value.int .i64)).toArray
theorem ints_set (xs : List Int) (i : Nat) (s : Int) : (ints xs).setIfInBounds i (.int .i64 s) = ints (xs.set i s) := by
  unfold ints
  rw [List.setIfInBounds_toArray, List.map_set]
theorem ints_at (xs : List Int) (i : Nat) (h : i < xs.length) : (ints xs)[i]? = some (.int .i64 xs[i]) := by
  unfold ints
  rw [List.getElem?_toArray, List.getElem?_map, List.getElem?_eq_getElem h]; rfl
theorem ints_C {W : World} {nb : Nat} {l : List Int} (h : W.heap[nb]? = some (.cells (ints l) 3 (0, 0))) (hm : l.length ≤ 9223372036854775807) : Kd.C (Kd.int .i64) W (some ⟨nb, 0, none⟩) l.length l := by
  refine ⟨rfl, hm, fun _ => ⟨_, rfl, fun j p hj => ⟨[.int .i64 p], rfl, rfl, fun i u hi => ?_⟩⟩⟩
  match i with
  | 0 =>
    cases hi
    obtain ⟨hjl, hjp⟩ := List.getElem?_eq_some_iff.1 hj
    have e : (⟨nb, 0, none⟩ : Addr).add (j * (Kd.int .i64).sz + 0) = ⟨nb, j, none⟩ := by
      show (⟨nb, 0, none⟩ : Addr).add (j * 1 + 0) = _
      rw [Nat.mul_one, Nat.add_zero, add_plain]
    rw [e, blk_cell h, ints_at l j hjl, hjp]
  | i + 1 => cases hi
theorem ints_F {W : World} {nb : Nat} {l : List Int} {ok : Nat → Prop} (h : W.heap[nb]? = some (.cells (ints l) 3 (0, 0))) (hm : l.length ≤ 9223372036854775807) (hok : ok nb) : Kd.F (Kd.int .i64) W ok (some ⟨nb, 0, none⟩) l.length l :=
  fun W' hW => ints_C ((hW nb hok (blk_lt h)).trans h) hm
def syncS (S : DevS) (sys ep : Int) : Int × DevS :=
  if plainB sys ep = true then (if (admitS S sys ep).1 = 0 then (0, finishS (isOf sys) (List.replicate (admitS S sys ep).2.pend.length 140) (admitS S sys ep).2) else admitS S sys ep) else (1, S)
theorem made_one (v : Value) (n : Nat) : madeCells #[v] n = (List.replicate n v).toArray := by
  apply Array.ext
  · simp [madeCells]
  · intro i h1 h2
    simp [madeCells, Nat.mod_one]
theorem made_ints (n : Nat) : madeCells #[.int .i64 0] n = ints (List.replicate n 0) := by
  rw [made_one, ints, List.map_replicate]
set_option maxHeartbeats 4000000 in
set_option maxRecDepth 100000 in
theorem sync_calls {W : World} {B : Nat} {L : Lay} {F : Nat → Prop} {S : DevS} {k : Nat} (hI : DevIs W B L F S) (hf : Fine k S) (hk : k ≤ 1000000) (hsl : S.surv.length ≤ 4611686018427387904) (sys ep : Int) :
    Calls Try.prog 21 #[.pointer (some ⟨L.g, 0, none⟩), .agg #[.int .i64 sys, .int .i64 ep]] W fun e W' => e = .returned (.int .i64 (syncS S sys ep).1) ∧ DevPost B L F (syncS S sys ep).2 W W' := by
  have hB := hI.hB
  have hb1 := below_alloc (Below.refl W.heap.size W) (.cells #[.int .i64 sys, .int .i64 ep] 35)
  have hx1 := blk_new W (.cells #[.int .i64 sys, .int .i64 ep] 35)
  have HI := Aside0.mk hI
  have HB1 := Aside0.mk hb1
  have HX1 := Aside0.mk hx1
  have HF := Aside0.mk hf
  unfold syncS
  clear hI hb1 hx1 hf
  cases hpl : plainB sys ep with
  | false =>
    rw [if_neg (by simp)]
    have HC := plain_calls (W.alloc (.cells #[.int .i64 sys, .int .i64 ep] 35)) sys ep
    rw [hpl] at HC
    have HC := Aside0.mk HC
    clear hpl
    go_enter Try.func21, Try.ntmps21
    go_wp2_with fail
    refine HC.out.mono ?_
    rintro e W2 ⟨rfl, hb2⟩
    have HB2 := Aside0.mk (HB1.out.trans (hb2.mono HB1.out.size))
    clear hb2 HC
    go_wp2_with fail
    go_ret
    exact ⟨rfl, DevPost.same HI.out HB2.out⟩
  | true =>
    rw [if_pos rfl]
    have HC := plain_calls (W.alloc (.cells #[.int .i64 sys, .int .i64 ep] 35)) sys ep
    rw [hpl] at HC
    have HC := Aside0.mk HC
    clear hpl
    have hfa := HF.out.admit sys ep
    obtain ⟨e5, S5, hr⟩ : ∃ e5 S5, admitS S sys ep = (e5, S5) := ⟨_, _, rfl⟩
    have hadm : ∀ W2, DevIs W2 B L F S → Calls Try.prog 50 #[.pointer (some ⟨L.g, 0, none⟩), .agg #[.int .i64 sys, .int .i64 ep]] W2 fun e W' => e = .returned (.int .i64 e5) ∧ DevPost B L F S5 W2 W' := fun W2 h => by
      have := admit_calls h HF.out hk hsl sys ep
      rw [hr] at this
      exact this
    rw [hr] at hfa ⊢
    have HFA := Aside0.mk (show Fine k S5 from hfa)
    have HADM := Aside0.mk hadm
    clear hr hadm hfa
    by_cases he : e5 = 0
    · subst he
      rw [if_pos rfl]
      go_enter Try.func21, Try.ntmps21
      go_wp2_with fail
      refine HC.out.mono ?_
      rintro e W2 ⟨rfl, hb2⟩
      have HB2 := Aside0.mk (HB1.out.trans (hb2.mono HB1.out.size))
      have HX2 := Aside0.mk (blk_below HX1.out hb2)
      have HI2 := Aside0.mk (HI.out.below HB2.out)
      have lW : W.heap.size < W2.heap.size := blk_lt HX2.out
      have x0 : W2.cell? ⟨W.heap.size, 0, none⟩ = some (.int .i64 sys) := by rw [blk_cell HX2.out]; rfl
      have x1 : W2.cell? ⟨W.heap.size, 1, none⟩ = some (.int .i64 ep) := by rw [blk_cell HX2.out]; rfl
      clear hb2 HC
      go_wp2_with fail
      refine (HADM.out W2 HI2.out).mono ?_
      rintro e W5 ⟨rfl, F5, hI5, hF5, hk5, hb5⟩
      have HX5 := Aside0.mk (blk_kept HX2.out hk5 (fun z => by have := (HI.out.range _ z).2; omega))
      have HKB := Aside0.mk (⟨(Kept.of_below HB2.out F).then_ hk5 (fun _ z => Or.inl z), (HB2.out.mono hB).trans hb5⟩ : Kept W W5 F ∧ Below B W W5)
      have HF5 := Aside0.mk (show ∀ q, F5 q → F q ∨ W.heap.size ≤ q from fun q z => (hF5 q z).imp id (fun y => by have := HB2.out.size; omega))
      have hB5 := hI5.hB
      obtain ⟨vs, pv, uv, m, hP5⟩ := hI5
      have c2 := hP5.c2
      have lg := hP5.lg
      obtain ⟨A, c, hpv, _, _⟩ := hP5.pslice
      have hpl5 : S5.pend.length ≤ 1000000 := Nat.le_trans HFA.out.plen hk
      have HP5 := Aside0.mk hP5
      subst hpv
      have y0 : W5.cell? ⟨W.heap.size, 0, none⟩ = some (.int .i64 sys) := by rw [blk_cell HX5.out]; rfl
      have lW5 : W.heap.size < W5.heap.size := blk_lt HX5.out
      obtain ⟨n, hn⟩ : ∃ n, n = S5.pend.length := ⟨_, rfl⟩
      have hn1 : n ≤ 1000000 := by omega
      have hmake := print_make_int (P := Try.prog) 29 3 (.int .i64 0) 8 Try.underlying29 info3 rfl (by decide) (n : Int) (by omega) (by rw [Int.toNat_natCast]; omega)
      rw [Int.toNat_natCast, made_ints] at hmake
      rw [← hn] at c2
      have HN := Aside0.mk hn
      clear hP5 hF5 hk5 hb5 HADM hn hpl5 x0 x1
      go_wp2_with fail
      obtain ⟨W6, hW6⟩ : ∃ W6, W6 = W5.alloc (.cells (ints (List.replicate n 0)) 3) := ⟨_, rfl⟩
      have HB6 := Aside0.mk (show Below W5.heap.size W5 W6 by rw [hW6]; exact below_alloc (Below.refl _ _) _)
      have HX6 := Aside0.mk (show W6.heap[W5.heap.size]? = some (.cells (ints (List.replicate n 0)) 3 (0, 0)) by rw [hW6]; exact blk_new _ _)
      have l6 : W5.heap.size < W6.heap.size := blk_lt HX6.out
      rw [← hW6]
      clear hW6 hmake
      go_loopg [7, 25] n (fun gg _ s25 wr => ∃ (j : Nat) (l : List Int), s25 = .int .i64 j ∧ j ≤ n ∧ n - j ≤ gg ∧ W5.heap.size < wr.heap.size ∧ Aside0 (l.length = n) ∧ Aside0 (∀ i, i < j → l[i]? = some 140) ∧ Aside0 (wr.heap[W5.heap.size]? = some (.cells (ints l) 3 (0, 0))) ∧ Aside0 (Below W5.heap.size W5 wr))
      case atStart => exact ⟨0, List.replicate n 0, by go_num, Nat.zero_le _, by omega, l6, ⟨by simp⟩, ⟨fun i hi => by omega⟩, HX6, HB6⟩
      case round =>
        obtain ⟨j, l, rfl, hj, hgg, lr, HLL, HLI, HXR, HBR⟩ := hrel
        by_cases hlt : j < n
        · have hltz : (j : Int) < (n : Int) := by omega
          have cj : wr.cell? ⟨W5.heap.size, j, none⟩ = some (.int .i64 (l[j]'(by have := HLL.out; omega))) := by rw [blk_cell HXR.out]; exact ints_at l j (by have := HLL.out; omega)
          have fj : wr.frozen? ⟨W5.heap.size, j, none⟩ = false := blk_frozen HXR.out j
          go_wp2_with fail
          go_roundg (n - (j + 1))
          case measure => omega
          case rel =>
            refine ⟨j + 1, l.set j 140, by go_num, by omega, Nat.le_refl _, by simpa [World.setCell] using lr, ⟨by rw [List.length_set]; exact HLL.out⟩, ⟨fun i hi => ?_⟩, ⟨blk_put HXR.out j _ (ints_set _ _ _)⟩, ⟨HBR.out.setCell (Nat.le_refl _) _⟩⟩
            have := HLL.out
            rw [List.getElem?_set]
            by_cases e : j = i
            · rw [if_pos e, if_pos (by omega)]
            · rw [if_neg e]; exact HLI.out i (by omega)
        · obtain rfl : j = n := by omega
          have hleq : l = List.replicate j 140 := by
            apply List.ext_getElem?
            intro i
            rw [List.getElem?_replicate]
            by_cases hi : i < j
            · rw [if_pos hi]; exact HLI.out i hi
            · rw [if_neg hi]; exact List.getElem?_eq_none (by have := HLL.out; omega)
          have yr : wr.cell? ⟨W.heap.size, 0, none⟩ = some (.int .i64 sys) := (HBR.out.cell (p := ⟨W.heap.size, 0, none⟩) lW5).trans y0
          have h6 : Below W5.heap.size W5 wr := HBR.out
          have hfr5 := HP5.out.hr
          have hpr := HP5.out.below HBR.out
          have hal := below_alloc (Below.refl wr.heap.size wr) (.cells #[.int .i64 sys] 3)
          have hp7 := hpr.below hal
          have hx7 := blk_alloc HXR.out (.cells #[.int .i64 sys] 3)
          rw [hleq] at hx7
          have hnm : ∀ q, Mut L (.slice A S5.pend.length c) q → q < W5.heap.size := fun q z => (hfr5 q (HP5.out.own q z)).2
          have hfin := finish_calls hp7 HFA.out hk 62 #[.pointer (some ⟨wr.heap.size, 0, none⟩)] (isOf sys) (matchOf _ _ wr.heap.size sys (blk_new _ _) (fun z => by have := hnm _ z; omega)) (some ⟨W5.heap.size, 0, none⟩) j (List.replicate j 140)
            (ints_F hx7 (by simp; omega) (fun z => by have := hnm _ z; omega)) (by simp) (by simp; omega)
          rw [List.length_replicate] at hfin
          have HFIN := Aside0.mk hfin
          have HB7 := Aside0.mk (HBR.out.trans (hal.mono (by omega)))
          clear hleq h6 hfr5 hpr hal hp7 hx7 hnm hfin
          go_wp2_with fail
          refine (of_calls wr sys).mono ?_
          rintro e W7 ⟨rfl, hW7⟩
          rw [← hW7] at HFIN HB7
          clear hW7
          go_wp2_with fail
          refine HFIN.out.mono ?_
          rintro e W8 ⟨rfl, hpo⟩
          have HPO := Aside0.mk (hpo.after HB7.out hB5)
          clear hpo HFIN
          go_wp2_with fail
          go_ret
          refine ⟨rfl, ?_⟩
          obtain ⟨F6, i1, i2, i3, i4⟩ := HPO.out
          obtain ⟨a1, a2⟩ := HKB.out
          have hz5 := a1.1
          have hn := HN.out
          have e : (List.replicate S5.pend.length (140 : Int)) = List.replicate j 140 := by rw [← hn]
          rw [e]
          exact ⟨F6, i1, fun q z => (i2 q z).elim (fun y => HF5.out q y) (fun y => Or.inr (by omega)), a1.then_ i3 (fun q z => HF5.out q z), a2.trans i4⟩
    · rw [if_neg he]
      have he1 : (e5 == 0) = false := beq_eq_false_iff_ne.2 he
      have he2 : (e5 != 0) = true := bne_iff_ne.2 he
      have HE := Aside0.mk he
      clear he
      go_enter Try.func21, Try.ntmps21
      go_wp2_with fail
      refine HC.out.mono ?_
      rintro e W2 ⟨rfl, hb2⟩
      have HB2 := Aside0.mk (HB1.out.trans (hb2.mono HB1.out.size))
      have HX2 := Aside0.mk (blk_below HX1.out hb2)
      have HI2 := Aside0.mk (HI.out.below HB2.out)
      have lW : W.heap.size < W2.heap.size := blk_lt HX2.out
      have x0 : W2.cell? ⟨W.heap.size, 0, none⟩ = some (.int .i64 sys) := by rw [blk_cell HX2.out]; rfl
      have x1 : W2.cell? ⟨W.heap.size, 1, none⟩ = some (.int .i64 ep) := by rw [blk_cell HX2.out]; rfl
      clear hb2 HC
      go_wp2_with fail
      refine (HADM.out W2 HI2.out).mono ?_
      rintro e W5 ⟨rfl, hpo⟩
      have HPO := Aside0.mk (hpo.after HB2.out hB)
      clear hpo HADM
      go_wp2_with fail
      go_ret
      exact ⟨rfl, HPO.out⟩
end Go.Proofs.Ytflajmgichdhhaa.PG

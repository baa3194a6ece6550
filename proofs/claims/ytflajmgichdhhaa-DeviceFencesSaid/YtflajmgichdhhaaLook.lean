/- there, Sectors, Failed, Old, Read. -/
import Derived.Test.YtflajmgichdhhaaDev
import Derived.BigQuiet


namespace Go.Proofs.Ytflajmgichdhhaa.PG
open Go.RowKit Go.Proofs.YtflajmgichdhhaaW.PrintWords Go.Proofs.YtflajmgichdhhaaW.PrintLast Go.Proofs.YtflajmgichdhhaaW.PrintMore

set_option linter.unusedVariables false
set_option linter.unusedSimpArgs false
/-! ### there, Sectors, Failed, Old -/
def inside (S : DevS) (i : Int) : Bool := decide (0 ≤ i ∧ i < (S.stable.length : Int))
section
variable {W : World} {B : Nat} {L : Lay} {vs : List Value} {pv uv : Value} {m : Ents} {F : Nat → Prop} {S : DevS}
set_option maxRecDepth 100000 in
theorem there_yes (hP : DevAt W B L vs pv uv m F S) (i : Int) (h0 : 0 ≤ i) (h1 : i < (S.stable.length : Int)) :
    Calls Try.prog 49 #[.pointer (some ⟨L.g, 0, none⟩), .int .i64 i] W fun e W' => e = .returned (.bool true) ∧ W = W' := by
  have c0 := hP.c0
  have hd0 : decide (0 ≤ i) = true := decide_eq_true h0
  have hd1 : decide (i < (S.stable.length : Int)) = true := decide_eq_true h1
  clear hP
  go_enter Try.func49, Try.ntmps49
  go_wp2_with fail
  go_ret
  exact ⟨rfl, rfl⟩
set_option maxRecDepth 100000 in
theorem there_no (hP : DevAt W B L vs pv uv m F S) (i : Int) (h : ¬ (0 ≤ i ∧ i < (S.stable.length : Int))) :
    Calls Try.prog 49 #[.pointer (some ⟨L.g, 0, none⟩), .int .i64 i] W fun e W' => e = .returned (.bool false) ∧ W = W' := by
  have c0 := hP.c0
  by_cases h0 : 0 ≤ i
  · have hd0 : decide (0 ≤ i) = true := decide_eq_true h0
    have hd1 : decide (i < (S.stable.length : Int)) = false := decide_eq_false (fun z => h ⟨h0, z⟩)
    clear hP h
    go_enter Try.func49, Try.ntmps49
    go_wp2_with fail
    go_ret
    exact ⟨rfl, rfl⟩
  · have hd0 : decide (0 ≤ i) = false := decide_eq_false h0
    clear hP h
    go_enter Try.func49, Try.ntmps49
    go_wp2_with fail
    go_ret
    exact ⟨rfl, rfl⟩
set_option maxRecDepth 100000 in
theorem sectors_calls (hP : DevAt W B L vs pv uv m F S) :
    Calls Try.prog 39 #[.pointer (some ⟨L.g, 0, none⟩)] W fun e W' => e = .returned (.int .i64 (S.stable.length : Int)) ∧ W = W' := by
  have c0 := hP.c0
  clear hP
  go_enter Try.func39, Try.ntmps39
  go_wp2_with fail
  go_ret
  exact ⟨rfl, rfl⟩
set_option maxRecDepth 100000 in
theorem failed_calls (hP : DevAt W B L vs pv uv m F S) :
    Calls Try.prog 40 #[.pointer (some ⟨L.g, 0, none⟩)] W fun e W' => e = .returned (.bool S.failed) ∧ W = W' := by
  have c7 := hP.c7
  clear hP
  go_enter Try.func40, Try.ntmps40
  go_wp2_with fail
  go_ret
  exact ⟨rfl, rfl⟩
/-- How many earlier contents. -/
def oldN (S : DevS) (i : Int) : Int := if 0 ≤ i ∧ i < (S.stable.length : Int) then ((S.old.getD i.toNat []).length : Int) else 0
set_option maxRecDepth 100000 in
theorem old_calls (hP : DevAt W B L vs pv uv m F S) (hlen : S.old.length = S.stable.length) (i : Int) :
    Calls Try.prog 25 #[.pointer (some ⟨L.g, 0, none⟩), .int .i64 i] W fun e W' => e = .returned (.int .i64 (oldN S i)) ∧ W = W' := by
  unfold oldN
  by_cases h : 0 ≤ i ∧ i < (S.stable.length : Int)
  · rw [if_pos h]
    obtain ⟨h0, h1⟩ := h
    have HT := Aside0.mk (there_yes hP i h0 h1)
    obtain ⟨n, rfl⟩ := Int.eq_ofNat_of_zero_le h0
    have hn : n < S.old.length := by omega
    obtain ⟨A, c, co, hxx⟩ := hP.co n hn
    rw [Int.toNat_natCast, List.getD_eq_getElem?_getD, List.getElem?_eq_getElem hn, Option.getD_some]
    have hlz : ((n : Nat) : Int) < (S.stable.length : Int) := h1
    have hln : n < S.stable.length := by omega
    have c1 := hP.c1
    obtain ⟨x, hx⟩ : ∃ x, x = S.old[n] := ⟨_, rfl⟩
    rw [← hx] at co ⊢
    clear hP hlen hxx hx hn
    go_enter Try.func25, Try.ntmps25
    go_wp2_with fail
    refine HT.out.mono ?_
    rintro e W2 ⟨rfl, rfl⟩
    go_wp2_with fail
    go_ret
    exact ⟨rfl, rfl⟩
  · rw [if_neg h]
    have HT := Aside0.mk (there_no hP i h)
    clear hP hlen h
    go_enter Try.func25, Try.ntmps25
    go_wp2_with fail
    refine HT.out.mono ?_
    rintro e W2 ⟨rfl, rfl⟩
    go_wp2_with fail
    go_ret
    exact ⟨rfl, rfl⟩
end
/-! ### Read -/
/-- The data of the last of these writes that is to sector i. -/
def lastOf (i : Int) : List S99 → Option ByteArray
  | [] => none
  | w :: ws => match lastOf i ws with | some d => some d | none => if w.f1 = i then some w.f2 else none
theorem lastOf_snoc (i : Int) (w : S99) : ∀ ws : List S99, lastOf i (ws ++ [w]) = if w.f1 = i then some w.f2 else lastOf i ws
  | [] => by
    show (match lastOf i [] with | some d => some d | none => _) = _
    rfl
  | x :: ws => by
    rw [List.cons_append]
    show (match lastOf i (ws ++ [w]) with | some d => some d | none => _) = _
    rw [lastOf_snoc i w ws]
    by_cases h : w.f1 = i
    · rw [if_pos h, if_pos h]
    · rw [if_neg h, if_neg h]
      rfl
theorem lastOf_step (i : Int) (ws : List S99) (j : Nat) (h : j < ws.length) : lastOf i (ws.take (j + 1)) = if ws[j].f1 = i then some ws[j].f2 else lastOf i (ws.take j) := by
  rw [List.take_succ_eq_append_getElem h, lastOf_snoc]
def contentS (S : DevS) (i : Int) : ByteArray := (lastOf i S.pend).getD (S.stable.getD i.toNat ⟨#[]⟩)
def readS (S : DevS) (i : Int) : ByteArray × Int := if 0 ≤ i ∧ i < (S.stable.length : Int) then (if S.failed = true then (⟨#[]⟩, 10) else (contentS S i, 0)) else (⟨#[]⟩, 2)
theorem rdT99_at (xs : List S99) (i : Nat) (h : i < xs.length) : rd_T99 xs (i : Int) = xs[i] := by
  unfold rd_T99
  rw [Int.toNat_natCast, List.getD_eq_getElem?_getD, List.getElem?_eq_getElem h]
  rfl
section
variable {W : World} {B : Nat} {L : Lay} {vs : List Value} {pv uv : Value} {m : Ents} {F : Nat → Prop} {S : DevS}
set_option maxRecDepth 100000 in
theorem read_calls (hP : DevAt W B L vs pv uv m F S) (hpl : S.pend.length ≤ 1000000) (i : Int) :
    Calls Try.prog 23 #[.pointer (some ⟨L.g, 0, none⟩), .int .i64 i] W fun e W' => e = .returned (.tuple #[.string (readS S i).1, .int .i64 (readS S i).2]) ∧ W = W' := by
  unfold readS
  by_cases h : 0 ≤ i ∧ i < (S.stable.length : Int)
  · rw [if_pos h]
    obtain ⟨h0, h1⟩ := h
    have HT := Aside0.mk (there_yes hP i h0 h1)
    have c7 := hP.c7
    cases hf : S.failed with
    | true =>
      rw [if_pos rfl]
      rw [hf] at c7
      clear hP hf
      go_enter Try.func23, Try.ntmps23
      go_wp2_with fail
      refine HT.out.mono ?_
      rintro e W2 ⟨rfl, rfl⟩
      go_wp2_with fail
      go_ret2
      exact ⟨rfl, rfl⟩
    | false =>
      rw [if_neg (by simp)]
      rw [hf] at c7
      obtain ⟨n, rfl⟩ := Int.eq_ofNat_of_zero_le h0
      have hn : n < S.stable.length := by omega
      have c0 := hP.c0
      have c2 := hP.c2
      have cs := hP.cs n hn
      obtain ⟨A, c, hpv, hpc, hC⟩ := hP.pslice
      subst hpv
      have hst : S.stable.getD n ⟨#[]⟩ = S.stable[n] := by rw [List.getD_eq_getElem?_getD, List.getElem?_eq_getElem hn]; rfl
      have HST := Aside0.mk hst
      obtain ⟨x, hx⟩ : ∃ x, x = S.stable[n] := ⟨_, rfl⟩
      rw [← hx] at cs HST
      have HC := Aside0.mk hC
      have hn' := Aside0.mk hn
      clear hP hf hC hst hx hn
      go_enter Try.func23, Try.ntmps23
      go_wp2_with fail
      refine HT.out.mono ?_
      rintro e W2 ⟨rfl, rfl⟩
      go_wp2_with fail
      go_loop [6] (fun t => ∃ k : Nat, t = .int .i64 ((k : Int) - 1) ∧ k ≤ S.pend.length ∧ Aside0 (lastOf n S.pend = lastOf n (S.pend.take k))) (fun t => (intOf t + 1).toNat)
      case atStart => exact ⟨S.pend.length, rfl, Nat.le_refl _, ⟨by rw [List.take_length]⟩⟩
      case round =>
        obtain ⟨k, rfl, hk, HL⟩ := hrel
        cases k with
        | zero =>
          rw [show (((0 : Nat) : Int) - 1) = -1 from rfl]
          have hn2 := hn'.out
          go_wp2_with fail
          go_ret2
          refine ⟨?_, rfl⟩
          have e := HL.out
          unfold contentS
          rw [e, List.take_zero, Int.toNat_natCast, HST.out]
          rfl
        | succ j =>
          rw [show (((j + 1 : Nat) : Int) - 1) = (j : Int) from by omega]
          have hjl : (j : Int) < (S.pend.length : Int) := by omega
          obtain ⟨ad, e, q0, q1, q2⟩ := at_T99 HC.out (j : Int) (by omega) hjl
          rw [rdT99_at _ j (by omega)] at q0 q1 q2
          cases e
          rw [Int.toNat_natCast] at q0 q1 q2
          have hs := lastOf_step n S.pend j (by omega)
          obtain ⟨w, hw⟩ : ∃ w, w = S.pend[j]'(by omega) := ⟨_, rfl⟩
          rw [← hw] at q0 q1 q2 hs
          have HS := Aside0.mk hs
          clear hs hw
          by_cases hq : w.f1 = (n : Int)
          · have hb : (w.f1 == (n : Int)) = true := by rw [hq]; simp
            have HQ := Aside0.mk hq
            clear hq
            go_wp2_with fail
            go_ret2
            refine ⟨?_, rfl⟩
            have e1 := HL.out
            have e2 := HS.out
            rw [if_pos HQ.out] at e2
            unfold contentS
            rw [e1, e2]
            rfl
          · have hb : (w.f1 == (n : Int)) = false := by simpa using hq
            have HQ := Aside0.mk hq
            clear hq
            go_wp2_with fail
            go_round
            case rel =>
              refine ⟨j, rfl, by omega, ⟨?_⟩⟩
              rw [HL.out, HS.out, if_neg HQ.out]
            case measure => simp [intOf]
  · rw [if_neg h]
    have HT := Aside0.mk (there_no hP i h)
    clear hP h
    go_enter Try.func23, Try.ntmps23
    go_wp2_with fail
    refine HT.out.mono ?_
    rintro e W2 ⟨rfl, rfl⟩
    go_wp2_with fail
    go_ret2
    exact ⟨rfl, rfl⟩
end
end Go.Proofs.Ytflajmgichdhhaa.PG

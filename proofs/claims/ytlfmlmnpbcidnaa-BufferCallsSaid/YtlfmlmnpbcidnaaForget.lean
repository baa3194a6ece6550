/- slices.IndexFunc and slices.DeleteFunc with the closure that forgets pages, for whatever predicate. -/
import Derived.Test.YtlfmlmnpbcidnaaRow
import Derived.Shelf.Abstract
namespace Go.Proofs.Ytlfmlmnpbcidnaa.PG
open Go.RowKit Go.Proofs.YtlfmlmnpbcidnaaW.PrintWords Go.Proofs.YtlfmlmnpbcidnaaW.PrintLast Go.Proofs.YtlfmlmnpbcidnaaW.PrintMore
set_option linter.unusedVariables false
set_option linter.unusedSimpArgs false

/-- Behind a step that may turn the map's block alone. -/
def FgPost (B bm : Nat) (W : World) (m : Ents) (W' : World) : Prop := MapIs W' bm m ∧ Kept W W' (fun k => k = bm) ∧ Below B W W'
set_option maxHeartbeats 400000 in
set_option maxRecDepth 100000 in
theorem fg_calls (W : World) (xb wb g bm B : Nat) (f : FuncId) (caps : Array Value) (a : S40) (b : Bool) (m : Ents) (c0 v c3 c4 : Value) (eg : ∀ args w, (callFunc f args).run Try.prog w = .ok (.enter f args) w)
    (hx : W.heap[xb]? = some (.cells #[.pointer (some ⟨g, 0, none⟩)] 23 (0, 0))) (hw : W.heap[wb]? = some (.cells #[.func (.func f) #[] caps] 68 (0, 0)))
    (hg : W.heap[g]? = some (.cells #[c0, .map (some bm), v, c3, c4] 61 (0, 0))) (hm : MapIs W bm m) (hB : B ≤ bm)
    (hwh : ∀ W', Below W.heap.size W W' → Calls Try.prog f (#[encP a] ++ caps) W' fun e W'' => e = .returned (.bool b) ∧ Below W'.heap.size W' W'') :
    Calls Try.prog 36 #[encP a, .pointer (some ⟨wb, 0, none⟩), .pointer (some ⟨xb, 0, none⟩)] W fun e W' => e = .returned (.bool b) ∧ FgPost B bm W (if b then del a m else m) W' := by
  have HX := Aside0.mk hx
  have HW := Aside0.mk hw
  have HG := Aside0.mk hg
  have HM := Aside0.mk hm
  have HWH := Aside0.mk hwh
  have cw : W.cell? ⟨wb, 0, none⟩ = some (.func (.func f) #[] caps) := by rw [blk_cell hw]; rfl
  have lwb : wb < W.heap.size := blk_lt hw
  have lxb : xb < W.heap.size := blk_lt hx
  have lg : g < W.heap.size := blk_lt hg
  have lbm : bm < W.heap.size := hm.lt
  clear hx hw hg hm hwh
  unfold encP
  go_enter Try.func36, Try.ntmps36
  go_wp2_with fail
  refine (HWH.out _ (below_alloc (Below.refl _ _) _)).mono ?_
  rintro e W1 ⟨rfl, hb1⟩
  have HB1 := Aside0.mk hb1
  have HX1 := Aside0.mk (blk_below (blk_alloc HX.out _) hb1)
  have HG1 := Aside0.mk (blk_below (blk_alloc HG.out _) hb1)
  have HP1 := Aside0.mk (blk_below (blk_new W (.cells #[.int .i64 a.f0, .int .i64 a.f1] 40)) hb1)
  have HM1 := Aside0.mk ((HM.out.move (Below.heap_alloc W _ bm lbm)).move (hb1.block bm (by simp; omega)))
  have HB2 := Aside0.mk (below_step (below_alloc (Below.refl W.heap.size W) (.cells #[.int .i64 a.f0, .int .i64 a.f1] 40)) hb1)
  clear hb1 HX HG HM HW cw HWH
  cases b with
  | false =>
    go_wp2_with fail
    go_ret
    exact ⟨rfl, HM1.out, Kept.of_below HB2.out _, HB2.out.mono (by omega)⟩
  | true =>
    have cx : W1.cell? ⟨xb, 0, none⟩ = some (.pointer (some ⟨g, 0, none⟩)) := by rw [blk_cell HX1.out]; rfl
    have cg : W1.cell? ⟨g, 1, none⟩ = some (.map (some bm)) := by rw [blk_cell HG1.out]; rfl
    have cp0 : W1.cell? ⟨W.heap.size, 0, none⟩ = some (.int .i64 a.f0) := by rw [blk_cell HP1.out]; rfl
    have cp1 : W1.cell? ⟨W.heap.size, 1, none⟩ = some (.int .i64 a.f1) := by rw [blk_cell HP1.out]; rfl
    go_wp2_with fail
    obtain ⟨w2, hrun, hm2, hg2⟩ := (show MapIs W1.drew bm m from HM1.out).run_delete Try.underlying59 a 0
    have HM2 := Aside0.mk hm2
    have HG2 := Aside0.mk hg2
    clear hm2 hg2
    unfold encP at hrun
    go_region
    all_goals
      go_wp2_with fail
      go_ret
      exact ⟨rfl, HM2.out, Kept.of_grown HG2.out (Kept.of_below (below_drew HB2.out) _) (fun k hk => Or.inl (Option.some.inj hk).symm), ((below_drew HB2.out).mono (by omega)).grown HG2.out (by have := HB2.out.size; simp; omega) (fun k hk => by cases hk; exact hB)⟩
/-- What a predicate says of a place by its content. -/
def says (p : S40 → Cont → Bool) (m : Ents) (a : S40) : Bool := match look a m with | some c => p a c | none => false
/-- The caller's predicate: in every world in which only the map's block (and one row) may have turned. -/
def WhichOk (W0 : World) (bm : Nat) (rb : Option Nat) (f : FuncId) (caps : Array Value) (p : S40 → Cont → Bool) : Prop :=
  ∀ a c W m, Kept W0 W (fun k => k = bm ∨ some k = rb) → MapIs W bm m → look a m = some c → Calls Try.prog f (#[encP a] ++ caps) W fun e W' => e = .returned (.bool (p a c)) ∧ Below W.heap.size W W'
/-- Where the closure that forgets lies: its two boxes, the caller's function in one, the pool in the other; the pool's struct. -/
structure Shut (W : World) (xb wb g bm B : Nat) (f : FuncId) (caps : Array Value) (c0 v c3 c4 : Value) : Prop where
  hx : W.heap[xb]? = some (.cells #[.pointer (some ⟨g, 0, none⟩)] 23 (0, 0))
  hw : W.heap[wb]? = some (.cells #[.func (.func f) #[] caps] 68 (0, 0))
  hg : W.heap[g]? = some (.cells #[c0, .map (some bm), v, c3, c4] 61 (0, 0))
  hB : B ≤ bm
theorem MapIs.ne {W : World} {b k : Nat} {m : Ents} {cs : Array Value} {t : TypeId} (h : MapIs W b m) (hk : W.heap[k]? = some (.cells cs t (0, 0))) : k ≠ b := by
  obtain ⟨es, c, hb, _⟩ := h
  rintro rfl
  rw [hk] at hb
  cases hb
theorem Shut.kept {W W' : World} {xb wb g bm B : Nat} {f : FuncId} {caps : Array Value} {c0 v c3 c4 : Value} {S : Nat → Prop} (h : Shut W xb wb g bm B f caps c0 v c3 c4) (hk : Kept W W' S) (h1 : ¬ S xb) (h2 : ¬ S wb) (h3 : ¬ S g) : Shut W' xb wb g bm B f caps c0 v c3 c4 :=
  ⟨blk_kept h.hx hk h1, blk_kept h.hw hk h2, blk_kept h.hg hk h3, h.hB⟩
/-- One call of the closure in the middle of forgetting. -/
theorem fg_at {W0 W : World} {xb wb g bm B : Nat} {f : FuncId} {caps : Array Value} {c0 v c3 c4 : Value} {p : S40 → Cont → Bool} {rb : Option Nat} (eg : ∀ args w, (callFunc f args).run Try.prog w = .ok (.enter f args) w)
    (hp : WhichOk W0 bm rb f caps p) (hk : Kept W0 W (fun k => k = bm ∨ some k = rb)) (hs : Shut W xb wb g bm B f caps c0 v c3 c4) {m : Ents} (hm : MapIs W bm m) (a : S40) (hl : look a m ≠ none) :
    Calls Try.prog 36 #[encP a, .pointer (some ⟨wb, 0, none⟩), .pointer (some ⟨xb, 0, none⟩)] W fun e W' => e = .returned (.bool (says p m a)) ∧ FgPost B bm W (if says p m a then del a m else m) W' := by
  cases hc : look a m with
  | none => exact absurd hc hl
  | some c =>
    have hsay : says p m a = p a c := by unfold says; rw [hc]
    rw [hsay]
    refine fg_calls W xb wb g bm B f caps a (p a c) m c0 v c3 c4 eg hs.hx hs.hw hs.hg hm hs.hB (fun W' hb => ?_)
    exact hp a c W' m (hk.below hb) (hm.move (hb.block bm hm.lt)) hc

/-- Behind IndexFunc: the first place of which the predicate says yes has gone out of the map. -/
def IxPost (p : S40 → Cont → Bool) (m : Ents) (xs : List S40) (B bm : Nat) (W : World) (r : Int) (W' : World) : Prop :=
  (r = -1 ∧ (∀ a ∈ xs, says p m a = false) ∧ FgPost B bm W m W') ∨ ∃ (i : Nat) (h : i < xs.length), r = (i : Int) ∧ (∀ a ∈ xs.take i, says p m a = false) ∧ says p m xs[i] = true ∧ FgPost B bm W (del xs[i] m) W'
set_option maxHeartbeats 800000 in
set_option maxRecDepth 100000 in
theorem index_calls (W0 W : World) (xb wb g bm B : Nat) (f : FuncId) (caps : Array Value) (c0 v c3 c4 : Value) (p : S40 → Cont → Bool) (rb : Option Nat) (A : Option Addr) (cap : Nat) (xs : List S40) (m : Ents) (eg : ∀ args w, (callFunc f args).run Try.prog w = .ok (.enter f args) w)
    (hp : WhichOk W0 bm rb f caps p) (hk : Kept W0 W (fun k => k = bm ∨ some k = rb)) (hs : Shut W xb wb g bm B f caps c0 v c3 c4) (hm : MapIs W bm m) (hl : ∀ a ∈ xs, look a m ≠ none) (hn : xs.length ≤ 4611686018427387904)
    (hC : ∀ W', Kept W W' (fun k => k = bm) → Kd.C k40 W' A xs.length xs) :
    Calls Try.prog 39 #[.slice A xs.length cap, .func (.func 36) #[] #[.pointer (some ⟨wb, 0, none⟩), .pointer (some ⟨xb, 0, none⟩)]] W fun e W' => ∃ r, e = .returned (.int .i64 r) ∧ IxPost p m xs B bm W r W' := by
  have HP := Aside0.mk hp
  have HK := Aside0.mk hk
  have HS := Aside0.mk hs
  have HM := Aside0.mk hm
  have HL := Aside0.mk hl
  have HC := Aside0.mk hC
  have EG := Aside0.mk eg
  have HB0 := Aside0.mk (Below.refl B W)
  clear hp hk hs hm hl hC eg
  go_enter Try.func39, Try.ntmps39
  go_wp2
  go_loopg [5, 8] xs.length (fun gg _ s8 wr => ∃ i : Nat, s8 = .int .i64 i ∧ i ≤ xs.length ∧ xs.length - i ≤ gg ∧ Aside0 (∀ a ∈ xs.take i, says p m a = false) ∧ Aside0 (FgPost B bm W m wr))
  case atStart => exact ⟨0, by go_num, Nat.zero_le _, by omega, ⟨fun a ha => by cases ha⟩, ⟨HM.out, Kept.refl _ _, HB0.out⟩⟩
  case round =>
    obtain ⟨i, rfl, hi, hgg, HN, HF⟩ := hrel
    have hmne : ∀ {k cs t}, W.heap[k]? = some (.cells cs t (0, 0)) → k ≠ bm := fun h => HM.out.ne h
    by_cases hlt : i < xs.length
    · have hltz : (i : Int) < (xs.length : Int) := by omega
      obtain ⟨ad, e, h0, h1⟩ := at_T40 (HC.out wr HF.out.2.1) (i : Int) (by omega) hltz
      rw [rdT40_at xs i hlt] at h0 h1
      cases e
      have hcall := fg_at EG.out HP.out (HK.out.then_ HF.out.2.1 (fun k hk => Or.inl (Or.inl hk))) (HS.out.kept HF.out.2.1 (HM.out.ne HS.out.hx) (HM.out.ne HS.out.hw) (HM.out.ne HS.out.hg)) HF.out.1 xs[i] (HL.out _ (List.getElem_mem hlt))
      unfold encP at hcall
      have HCALL := Aside0.mk hcall
      clear hcall hmne
      rw [Int.toNat_natCast] at h0 h1
      have htk : xs.take (i + 1) = xs.take i ++ [xs[i]] := List.take_succ_eq_append_getElem hlt
      have HTK := Aside0.mk htk
      clear htk
      cases hq : says p m xs[i] with
      | false =>
        rw [hq] at HCALL
        have HQ := Aside0.mk hq
        clear hq
        go_wp2_with fail
        with_reducible refine HCALL.out.mono ?_
        rintro e W1 ⟨rfl, hf⟩
        have HF1 := Aside0.mk hf
        clear hf HCALL
        go_wp2_with fail
        go_roundg (xs.length - (i + 1))
        case measure => omega
        case rel =>
          refine ⟨i + 1, by go_num, by omega, Nat.le_refl _, ⟨fun a ha => ?_⟩, ⟨?_⟩⟩
          · rw [HTK.out] at ha
            rcases List.mem_append.1 ha with ha | ha
            · exact HN.out a ha
            · rw [List.mem_singleton.1 ha]; exact HQ.out
          · have h1 := HF.out
            have h2 := HF1.out
            rw [if_neg (by simp)] at h2
            exact ⟨h2.1, h1.2.1.then_ h2.2.1 (fun k hk => Or.inl hk), h1.2.2.trans h2.2.2⟩
      | true =>
        rw [hq] at HCALL
        have HQ := Aside0.mk hq
        clear hq
        go_wp2_with fail
        with_reducible refine HCALL.out.mono ?_
        rintro e W1 ⟨rfl, hf⟩
        have HF1 := Aside0.mk hf
        clear hf HCALL
        go_wp2_with fail
        go_ret
        have h1 := HF.out
        have h2 := HF1.out
        simp only [if_true] at h2
        exact ⟨(i : Int), rfl, Or.inr ⟨i, hlt, rfl, HN.out, HQ.out, h2.1, h1.2.1.then_ h2.2.1 (fun k hk => Or.inl hk), h1.2.2.trans h2.2.2⟩⟩
    · obtain rfl : i = xs.length := by omega
      clear hmne
      go_wp2_with fail
      go_ret
      exact ⟨-1, rfl, Or.inl ⟨rfl, fun a ha => HN.out a (by rw [List.take_length]; exact ha), HF.out⟩⟩
end Go.Proofs.Ytlfmlmnpbcidnaa.PG

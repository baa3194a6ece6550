/- The walks and plain facts behind the row of DeviceOperations: part 3 of 4. -/
import Derived.Test.YtflajmgichdhhaaOp1
namespace Go.Proofs.Ytflajmgichdhhaa.PG
open Go.RowKit Go.Proofs.YtflajmgichdhhaaW.PrintWords Go.Proofs.YtflajmgichdhhaaW.PrintLast Go.Proofs.YtflajmgichdhhaaW.PrintMore
set_option linter.unusedVariables false
set_option linter.unusedSimpArgs false
structure EndAt (W w : World) (okk : Nat → Prop) (bx rb : Nat) (cells : Array Value) (v9 : Value) (xs : List S99) (S : DevS) : Prop where
  bel : Below W.heap.size W w
  box : w.heap[bx]? = some (.cells cells 31 (0, 0))
  res : w.heap[rb]? = some (.cells #[.slice none 0 0, .slice none 0 0, .slice none 0 0, .slice none 0 0, .bool false, .int .i64 0, .slice none 0 0] 31 (0, 0))
  ref : RefIs w (fun k => okk k ∧ some k ≠ v9.ownBlock) (.agg cells) S
  row : Kd.R k99 99 w W.heap.size (fun k => W.heap.size + 1 + 1 ≤ k) v9 xs
theorem RefIs.agg {W : World} {ok : Nat → Prop} {S : DevS} {v0 v1 v2 v3 v4 v5 v6 : Value} (h : RefIs W ok (.agg #[v0, v1, v2, v3, v4, v5, v6]) S) : ∃ fl fu sv, v4 = .bool S.failed ∧ v5 = .int .i64 fu ∧ RefAt W ok (.agg #[v0, v1, v2, v3, v4, v5, v6]) v0 v1 v2 v3 v6 fl fu sv S := by
 obtain ⟨w0, w1, w2, w3, w6, fl, fu, sv, h⟩ := h
 have e := h.hv
 injection e with e
 have e0 := congrArg (fun a => a[0]?) e
 have e1 := congrArg (fun a => a[1]?) e
 have e2 := congrArg (fun a => a[2]?) e
 have e3 := congrArg (fun a => a[3]?) e
 have e4 := congrArg (fun a => a[4]?) e
 have e5 := congrArg (fun a => a[5]?) e
 have e6 := congrArg (fun a => a[6]?) e
 simp at e0 e1 e2 e3 e4 e5 e6
 subst e0 e1 e2 e3 e6
 exact ⟨fl, fu, sv, e4, e5, h⟩
def numB (l : List Int) (all : Bool) (k : Nat) : Nat := if all = true then 140 else bytesAt l k
theorem empty_ok {α : Type} {d : Kd α} {e : Nat} {w : World} {B g : Nat} {ok : Nat → Prop} (hb : w.heap[g]? = some (.cells #[] e (0, 0))) (hle : B ≤ g) (hok : ok g) : Kd.R d e w B ok (.slice (some ⟨g, 0, none⟩) 0 0) [] := by
 refine ⟨fun k hk => ?_, [], ⟨by simp, Or.inr ⟨g, 0, #[], rfl, hle, hb, Nat.le_refl _, Nat.zero_le _, by simp, by simp⟩⟩, Reps.none _ _⟩
 simp [Value.ownBlock] at hk
 rw [← hk]
 exact hok
theorem filter_step' (p : S99 → Bool) (xs : List S99) (j : Nat) (h : j < xs.length) : (xs.take (j + 1)).filter (fun a => !p a) = (xs.take j).filter (fun a => !p a) ++ (if p xs[j] = true then [] else [xs[j]]) := by
 rw [List.take_succ_eq_append_getElem h, List.filter_append, List.filter_cons]
 cases p xs[j] <;> simp
set_option maxRecDepth 100000 in
set_option maxHeartbeats 8000000 in
theorem end_ref {W : World} {ok : Nat → Prop} {v : Value} {S : DevS} {kk : Nat} (hR : RefIs W ok v S) (hF : Fine kk S) (hkk : kk ≤ 1000000) (p : S99 → Bool) (sys : Int) (hp : ∀ w, p w = (decide (sys = 0) || (w.f0 == sys))) (A : Option Addr) (c : Nat) (l nums : List Int) (hC : Kd.C (Kd.int .i64) W A l.length l) (hlc : l.length ≤ c) (hlm : l.length ≤ 4611686018427387904) (all : Bool) (hall : all = true → l.length = 0) (hnum : ∀ k, k < S.pend.length → bytesAt nums k = numB l all k) :
  Calls Try.prog 30 #[v, .int .i64 sys, .slice A l.length c, .bool all] W fun e W' => RChPost ok (finishS p nums S) W e W' := by
 obtain ⟨A0, A1, A2, A3, A6, c0, c1, c2, c3, c6, fl, fu, sv, hRC⟩ := hR.open_
 obtain rfl := hRC.hv
 have HR := Aside0.mk hR
 have HF := Aside0.mk hF
 have HP := Aside0.mk hp
 have HC := Aside0.mk hC
 have HNU := Aside0.mk hnum
 have hpl : S.pend.length ≤ 1000000 := Nat.le_trans hF.plen hkk
 have HALL := Aside0.mk hall
 obtain ⟨n0, hn0⟩ : ∃ n0, n0 = S.stable.length := ⟨_, rfl⟩
 obtain ⟨n1, hn1⟩ : ∃ n1, n1 = S.old.length := ⟨_, rfl⟩
 obtain ⟨n2, hn2⟩ : ∃ n2, n2 = S.pend.length := ⟨_, rfl⟩
 obtain ⟨n3, hn3⟩ : ∃ n3, n3 = fl.length := ⟨_, rfl⟩
 obtain ⟨n6, hn6⟩ : ∃ n6, n6 = sv.length := ⟨_, rfl⟩
 obtain ⟨fa, hfa⟩ : ∃ fa, fa = S.failed := ⟨_, rfl⟩
 rw [← hn0, ← hn1, ← hn2, ← hn3, ← hn6, ← hfa]
 rw [← hn0, ← hn1, ← hn2, ← hn3, ← hn6, ← hfa] at HR
 rw [← hn2] at hpl
 have EQ2 := Aside0.mk hn2
 clear hR hF hp hC hnum hall hRC hn0 hn1 hn2 hn3 hn6 hfa
 go_enter Try.func30, Try.ntmps30
 go_wp2_with fail
 obtain ⟨f0, f1, f2, fb⟩ := three W (.cells #[.slice A0 n0 c0, .slice A1 n1 c1, .slice A2 n2 c2, .slice A3 n3 c3, .bool fa, .int .i64 fu, .slice A6 n6 c6] 31) (.cells #[.slice none 0 0, .slice none 0 0, .slice none 0 0, .slice none 0 0, .bool false, .int .i64 0, .slice none 0 0] 31) (.cells #[] 99)
 obtain ⟨w3, hw3⟩ : ∃ w3, w3 = ((W.alloc (.cells #[.slice A0 n0 c0, .slice A1 n1 c1, .slice A2 n2 c2, .slice A3 n3 c3, .bool fa, .int .i64 fu, .slice A6 n6 c6] 31)).alloc (.cells #[.slice none 0 0, .slice none 0 0, .slice none 0 0, .slice none 0 0, .bool false, .int .i64 0, .slice none 0 0] 31)).alloc (.cells #[] 99) := ⟨_, rfl⟩
 rw [← hw3] at f0 f1 f2 fb ⊢
 obtain ⟨bx, hbx⟩ : ∃ bx, bx = W.heap.size := ⟨_, rfl⟩
 obtain ⟨rb, hrb⟩ : ∃ rb, rb = W.heap.size + 1 := ⟨_, rfl⟩
 obtain ⟨e0, he0⟩ : ∃ e0, e0 = W.heap.size + 1 + 1 := ⟨_, rfl⟩
 rw [← he0] at f2 ⊢
 rw [← hrb] at f1 ⊢
 rw [show (Value.pointer (some ⟨W.heap.size, 0, none⟩)) = .pointer (some ⟨bx, 0, none⟩) by rw [hbx]]
 rw [← hbx] at f0
 have LB := Aside0.mk (show W.heap.size ≤ bx ∧ W.heap.size ≤ rb ∧ W.heap.size + 1 + 1 ≤ e0 ∧ bx ≠ rb ∧ bx < W.heap.size + 1 + 1 ∧ rb < W.heap.size + 1 + 1 ∧ bx ≠ e0 ∧ rb ≠ e0 from ⟨by omega, by omega, by omega, by omega, by omega, by omega, by omega, by omega⟩)
 obtain ⟨okk, hokk⟩ : ∃ okk : Nat → Prop, okk = fun k => (ok k ∧ k < W.heap.size) ∨ W.heap.size + 1 + 1 ≤ k := ⟨_, rfl⟩
 have hE0 : EndAt W w3 okk bx rb #[.slice A0 n0 c0, .slice A1 n1 c1, .slice A2 n2 c2, .slice A3 n3 c3, .bool fa, .int .i64 fu, .slice A6 n6 c6] (.slice (some ⟨e0, 0, none⟩) 0 0) [] S :=
  ⟨fb, f0, f1, ((HR.out.mono (ok' := fun k => ok k ∧ k < W.heap.size) (fun k hk hlt => ⟨hk, hlt⟩)).below fb).mono (fun k hk _ => ⟨by rw [hokk]; exact Or.inl hk, fun e => by have h1 := hk.2; have h2 : k = e0 := Option.some.inj e; have h3 := LB.out.2.2.1; omega⟩), empty_ok f2 (by have := LB.out.2.2.1; omega) LB.out.2.2.1⟩
 have RBE := Aside0.mk hrb
 have HOKK := Aside0.mk (show ∀ k, W.heap.size + 1 + 1 ≤ k → okk k from fun k hk => by rw [hokk]; exact Or.inr hk)
 have HOKO := Aside0.mk (show ∀ k, okk k → k ≠ bx ∧ k ≠ rb ∧ (ok k ∨ W.heap.size ≤ k) from fun k hk => by
  rw [hokk] at hk
  rcases hk with hk | hk
  ·exact ⟨by omega, by omega, Or.inl hk.1⟩
  ·exact ⟨by omega, by omega, Or.inr (by omega)⟩)
 have HE0 := Aside0.mk hE0
 clear hw3 hbx hrb he0 hokk hE0 f0 f1 f2 fb
 go_loopg [9, 10, 11, 12, 13] n2 (fun gg s9 s10 s11 _ _ wr => ∃ (j i : Nat) (v9 : Value) (S' : DevS) (cells : Array Value), v9 = s9 ∧ s11 = .int .i64 j ∧ s10 = .int .i64 i ∧ j ≤ n2 ∧ n2 - j ≤ gg ∧ i ≤ j ∧ Aside0 (EndAt W wr okk bx rb cells v9 ((S.pend.take j).filter fun a => !p a) S') ∧ Aside0 (endF p nums (S.pend.take j) (0, S) = (i, S')) ∧ Aside0 (Fine kk S'))
 case atStart => exact ⟨0, 0, _, S, _, rfl, by go_num, by go_num, Nat.zero_le _, by omega, Nat.le_refl _, HE0, ⟨rfl⟩, HF⟩
 case round =>
  clear HE0
  obtain ⟨j, i, u9, S', cells, hu9, rfl, rfl, hj, hgg, hij, HE, HEF, HFS⟩ := hrel
  subst hu9
  have hsame := endF_same p nums (S.pend.take j) (0, S)
  rw [HEF.out] at hsame
  obtain ⟨B0, B1, B2, B3, B6, d0, d1, d2, d3, d6, gl, fu, sw, hRC⟩ := HE.out.ref.open_
  have hcv := hRC.hv
  injection hcv with hcv
  obtain ⟨n0, hn0⟩ : ∃ n0, n0 = S'.stable.length := ⟨_, rfl⟩
  obtain ⟨n1, hn1⟩ : ∃ n1, n1 = S'.old.length := ⟨_, rfl⟩
  obtain ⟨n3, hn3⟩ : ∃ n3, n3 = gl.length := ⟨_, rfl⟩
  obtain ⟨n6, hn6⟩ : ∃ n6, n6 = sw.length := ⟨_, rfl⟩
  obtain ⟨fa, hfa⟩ : ∃ fa, fa = S'.failed := ⟨_, rfl⟩
  have hsp : S'.pend = S.pend := hsame.pend
  rw [← hn0, ← hn1, hsp, ← EQ2.out, ← hn3, ← hn6, ← hfa] at hcv
  subst hcv
  have HN0 := Aside0.mk hn0
  have hC2 := hRC.h2
  rw [hsp, ← EQ2.out] at hC2
  have hC0 := hRC.h0
  rw [← hn0] at hC0
  have HC0' := Aside0.mk hC0
  have HSA := Aside0.mk hsame
  have hbx := HE.out.box
  have lbx := blk_lt hbx
  obtain ⟨k0, k1, k2, k3, k4, k5, k6⟩ := cells7 hbx
  clear hRC hsame hsp hn0 hn1 hn3 hn6 hfa hbx hC0
  by_cases hlt : j < n2
  ·have hltz : (j : Int) < (n2 : Int) := by omega
   obtain ⟨ad, e, h0, h1, h2⟩ := at_T99 hC2 (j : Int) (by omega) hltz
   have hjs : j < S.pend.length := by have := EQ2.out; omega
   rw [rdT99_at _ j hjs] at h0 h1 h2
   subst e
   rw [Int.toNat_natCast] at h0 h1 h2
   have hst := endF_step p nums S.pend j hjs (0, S)
   rw [HEF.out] at hst
   have hfl := filter_step' p S.pend j hjs
   have hfa := HF.out.pend _ (List.getElem_mem hjs)
   obtain ⟨a, ha⟩ : ∃ a, a = S.pend[j] := ⟨_, rfl⟩
   rw [← ha] at h0 h1 h2 hst hfa hfl
   have hba := World.block_lt_of_cell? wr _ h0
   have hba0 : ad.block < wr.heap.size := by
    have e : (ad.add (j * 3)).block = ad.block := by unfold Addr.add; split <;> rfl
    rw [e] at hba; exact hba
   have HST := Aside0.mk hst
   have HFL := Aside0.mk hfl
   have HFA := Aside0.mk hfa
   have hpa := HP.out a
   clear hst hfl hfa ha hC2 hjs
   cases hq : p a with
   | false =>
    rw [hq] at hpa HFL
    have hx : sys ≠ 0 ∧ a.f0 ≠ sys := by
     have := hpa.symm
     simp at this
     exact this
    have s1 : (sys != 0) = true := bne_iff_ne.2 hx.1
    have s2 : (a.f0 != sys) = true := bne_iff_ne.2 hx.2
    have HQ := Aside0.mk hq
    clear hpa hx hq
    go_wp2_with (at_builtin; with_reducible refine stopHere ?_)
    obtain ⟨w5, hw5⟩ : ∃ w5, w5 = wr.alloc (.cells #[.int .i64 a.f0, .int .i64 a.f1, .string a.f2] 99) := ⟨_, rfl⟩
    have hb5 : Below wr.heap.size wr w5 := by rw [hw5]; exact below_alloc (Below.refl _ _) _
    have hs5 : wr.heap.size + 1 = w5.heap.size := by rw [hw5]; simp
    rw [← hw5, hs5]
    have HB5 := Aside0.mk hb5
    have HS5 := Aside0.mk hs5
    have hwr : W.heap.size + 1 + 1 ≤ wr.heap.size := by have := blk_lt HE.out.res; have := RBE.out; omega
    have HWR := Aside0.mk hwr
    have hfl1 : ((S.pend.take j).filter fun a => !p a).length ≤ 1000000 := Nat.le_trans (List.length_filter_le _ _) (by simp; omega)
    clear hw5 hs5 hb5 k0 k1 k2 k3 k4 k5 k6 h0 h1 h2 lbx hba hba0
    refine ⟨?_⟩
    refine Kd.R_append k99 (w0 := W) W.heap.size rfl (.tmp 35) (.tmp 37) 28 99 (.agg #[.int .i64 0, .int .i64 0, .string ⟨#[]⟩]) 32 rfl Try.underlying28 info99 rfl (by decide) (by omega) _ ((S.pend.take j).filter fun a => !p a) a [.int .i64 a.f0, .int .i64 a.f1, .string a.f2] (fun k => W.heap.size + 1 + 1 ≤ k) (fun _ => False) rfl rfl (k99_mkM _ _ _ a) (fun _ h => h.elim) (fun k hk => by have h1 := HS5.out; omega) (Kd.R_below HE.out.row HB5.out) (HE.out.bel.trans (HB5.out.mono HE.out.bel.size)) (by have := HS5.out; omega) (by omega) ?_
    intro v9 w7 hR7 hb7 hg7 hat7
    have HFE := HFL.out
    rw [if_neg (by simp)] at HFE
    have hbox := blk_below HE.out.box HB5.out
    have hres := blk_below HE.out.res HB5.out
    have hrow5 := Kd.R_below HE.out.row HB5.out
    have hE7 : EndAt W w7 okk bx rb #[.slice B0 n0 d0, .slice B1 n1 d1, .slice (some ad) n2 d2, .slice B3 n3 d3, .bool fa, .int .i64 fu, .slice B6 n6 d6] v9 ((S.pend.take (j + 1)).filter fun a => !p a) S' := by
     refine ⟨hb7, (hg7.block bx (blk_lt hbox) (fun z => Kd.R_ne hrow5 hbox (by decide) z)).trans hbox, (hg7.block rb (blk_lt hres) (fun z => Kd.R_ne hrow5 hres (by decide) z)).trans hres, ?_, by rw [HFE]; exact hR7⟩
     have r1 := (HE.out.ref.below HB5.out).mono (ok' := fun k => (okk k ∧ some k ≠ u9.ownBlock) ∧ k < w5.heap.size) (fun k hk hlt => ⟨hk, hlt⟩)
     have r2 := r1.step (W1 := w7) (fun k hk hlt => hg7.block k hlt hk.1.2)
     refine r2.mono (fun k hk hlt => ⟨hk.1.1, fun e => ?_⟩)
     rcases hat7 with h | ⟨b, h, hle⟩
     ·exact hk.1.2 (e.trans h)
     ·rw [h] at e
      have h1 := Option.some.inj e
      have h2 := hk.2
      omega
    have HE7 := Aside0.mk hE7
    have HEF7 := Aside0.mk (show endF p nums (S.pend.take (j + 1)) (0, S) = (i, S') by rw [HST.out]; unfold endStep; rw [if_neg (by rw [HQ.out]; simp)])
    clear hR7 hb7 hg7 hat7 HFE hbox hres hrow5 hE7 HE
    go_wp2_with fail
    go_roundg (n2 - (j + 1))
    case measure => omega
    case rel => exact ⟨j + 1, i, _, S', _, rfl, by go_num, by go_num, by omega, Nat.le_refl _, by omega, HE7, HEF7, HFS⟩
   | true =>
    rw [hq] at hpa
    have hx : (sys != 0) = false ∨ ((sys != 0) = true ∧ (a.f0 != sys) = false) := by
     by_cases e : sys = 0
     ·exact Or.inl (by simp [e])
     ·refine Or.inr ⟨bne_iff_ne.2 e, ?_⟩
      have := hpa.symm
      simp [e] at this
      simp [this]
    have HQ := Aside0.mk hq
    clear hpa hq
    have hin : i < S.pend.length := by have := EQ2.out; omega
    have HNB := Aside0.mk (HNU.out i hin)
    clear hin
    obtain ⟨q, hq1⟩ := Int.eq_ofNat_of_zero_le HFA.out.2.2.1
    have hqn : q < n0 := by have h1 := HFA.out.2.2.2.1; have h2 : S'.stable.length = S.stable.length := HSA.out.sl; have h3 := HN0.out; omega
    have hqz : (q : Int) < (n0 : Int) := by omega
    rw [hq1] at h1
    obtain ⟨adq, eq0, y0⟩ := Kd.at_string HC0'.out (q : Int) (by omega) hqz
    rw [Int.toNat_natCast, show rdOf ByteArray.empty S'.stable (q : Int) = S'.stable.getD q ⟨#[]⟩ by unfold rdOf; rw [Int.toNat_natCast]; rfl] at y0
    obtain ⟨y, hy⟩ : ∃ y, y = S'.stable.getD q ⟨#[]⟩ := ⟨_, rfl⟩
    rw [← hy] at y0
    have hysz : y.size = 140 := by rw [hy]; exact HFS.out.size _ (getD_mem _ _ _ (by have := HN0.out; omega))
    have hdsz : a.f2.size = 140 := HFA.out.2.2.2.2
    subst eq0
    obtain ⟨dat, hdat⟩ : ∃ dat, dat = a.f2 := ⟨_, rfl⟩
    rw [← hdat] at h2 hdsz
    have HEND := Aside0.mk (show ∀ b, bytesAt nums i = b → endF p nums (S.pend.take (j + 1)) (0, S) = (i + 1, changeS q (dat.extract 0 b ++ y.extract b y.size) S') from fun b hb => by
     rw [HST.out]
     unfold endStep
     rw [if_pos HQ.out]
     unfold endOne cut
     rw [hq1, Int.toNat_natCast, ← hy, ← hdat]
     show (i + 1, changeS q (dat.extract 0 (bytesAt nums i) ++ y.extract (bytesAt nums i) y.size) S') = _
     rw [hb])
    have HCH := Aside0.mk (fun (d' : ByteArray) (w : World) (hb : Below wr.heap.size wr w) => change_ref (HE.out.ref.below hb) q (by have := HN0.out; omega) d' HFS.out.n1 HFS.out.len HFS.out.olen)
    have HFL2 := Aside0.mk (show ((S.pend.take (j + 1)).filter fun a => !p a) = ((S.pend.take j).filter fun a => !p a) by rw [HFL.out, if_pos HQ.out, List.append_nil])
    have HQN := Aside0.mk (show q < S'.stable.length by have := HN0.out; omega)
    have hyb := World.block_lt_of_cell? wr _ y0
    have hyb0 : adq.block < wr.heap.size := by
     have e : (adq.add q).block = adq.block := by unfold Addr.add; split <;> rfl
     rw [e] at hyb; exact hyb
    clear hq1 hy hdat HFL
    cases all with
    | true =>
     have hl0 : l.length = 0 := HALL.out rfl
     have hln : decide ((i : Int) < (l.length : Int)) = false := decide_eq_false (by omega)
     have HBB := Aside0.mk (show bytesAt nums i = 140 from HNB.out)
     have hnl : ¬ i < l.length := by omega
     clear hl0 HNB
     rcases hx with s1 | ⟨s1, s2⟩
     ·skip
      obtain ⟨S2, hS2⟩ : ∃ S2, S2 = changeS q (dat.extract 0 140 ++ y.extract 140 y.size) S' := ⟨_, rfl⟩
      have HEF2 := Aside0.mk (show endF p nums (S.pend.take (j + 1)) (0, S) = (i + 1, S2) by rw [hS2]; exact HEND.out 140 HBB.out)
      have HFS2 := Aside0.mk (show Fine kk S2 by rw [hS2]; exact HFS.out.change q HQN.out _ (by rw [ByteArray.size_append, ByteArray.size_extract, ByteArray.size_extract]; omega))
      have HCH2 := Aside0.mk (fun (w : World) (hb : Below wr.heap.size wr w) => HCH.out (dat.extract 0 140 ++ y.extract 140 y.size) w hb)
      rw [← hS2] at HCH2
      have s9 : ¬ 9223372036854775807 < y.size := by omega
      have s6 : ¬ 9223372036854775807 < min 140 dat.size + (y.size - 140) := by omega
      have s7 : 140 ≤ dat.size := by omega
      have s8 : 140 ≤ y.size := by omega
      have s7z : (140 : Int) ≤ (dat.size : Int) := by omega
      have s8z : (140 : Int) ≤ (y.size : Int) := by omega
      clear hS2 HEND HCH hysz hdsz
      go_wp2_with fail
      obtain ⟨w5, hw5⟩ : ∃ w5, w5 = wr.alloc (.cells #[.int .i64 a.f0, .int .i64 (q : Int), .string dat] 99) := ⟨_, rfl⟩
      have hb5 : Below wr.heap.size wr w5 := by rw [hw5]; exact below_alloc (Below.refl _ _) _
      obtain ⟨tb, htb⟩ : ∃ tb, tb = wr.heap.size := ⟨_, rfl⟩
      have t5 : w5.heap[tb]? = some (.cells #[.int .i64 a.f0, .int .i64 (q : Int), .string dat] 99 (0, 0)) := by rw [hw5, htb]; exact blk_new _ _
      rw [← hw5, ← htb]
      have hbx5 := blk_below HE.out.box hb5
      obtain ⟨p0, p1, p2, p3, p4, p5, p6⟩ := cells7 hbx5
      have t1 : w5.cell? ⟨tb, 1, none⟩ = some (.int .i64 (q : Int)) := by rw [blk_cell t5]; rfl
      have t2 : w5.cell? ⟨tb, 2, none⟩ = some (.string dat) := by rw [blk_cell t5]; rfl
      have ty : w5.cell? (adq.add q) = some (.string y) := (hb5.cell hyb).trans y0
      have HBD := Aside0.mk (show Below wr.heap.size wr w5.drew from hb5.drew)
      have LOW := Aside0.mk (show ∀ b, u9.ownBlock = some b → b < wr.heap.size from Kd.R_lt HE.out.row)
      have HWR := Aside0.mk (show W.heap.size + 1 + 1 ≤ wr.heap.size by have := blk_lt HE.out.res; have := RBE.out; omega)
      clear hw5 htb hb5 t5 hbx5 k0 k1 k2 k3 k4 k5 k6 h0 h1 h2 lbx hba hba0 hyb hyb0 y0
      refine start_ (n := 18) (S := fun w' => w'.cell? ⟨bx, 0, none⟩ = some (.slice (some adq) n0 d0) ∧ w'.cell? ⟨bx, 1, none⟩ = some (.slice B1 n1 d1) ∧ w'.cell? ⟨bx, 2, none⟩ = some (.slice (some ad) n2 d2) ∧ w'.cell? ⟨bx, 3, none⟩ = some (.slice B3 n3 d3) ∧ w'.cell? ⟨bx, 4, none⟩ = some (.bool fa) ∧ w'.cell? ⟨bx, 5, none⟩ = some (.int .i64 fu) ∧ w'.cell? ⟨bx, 6, none⟩ = some (.slice B6 n6 d6) ∧ w'.cell? ⟨tb, 1, none⟩ = some (.int .i64 (q : Int)) ∧ w'.cell? ⟨tb, 2, none⟩ = some (.string dat) ∧ w'.cell? (adq.add q) = some (.string y)) (ds := [17]) #[false, false, false, false, false, false, false, false, false, false, false, false, false, false, false, false, false, false] (by kernel_rfl) rfl rfl ⟨p0, p1, p2, p3, p4, p5, p6, t1, t2, ty⟩ (fun hHeld => ?_)
      refine pure_ (i := 1) (N := some 53) (v := ?_) (a' := ?_) #[false, true, false, false, false, false, false, false, false, false, false, false, false, false, false, false, false, false] rfl rfl (by kernel_rfl) (fun _ _ _ h => h) (Or.inl ⟨by rfl, ?_⟩) ?_ ?_
      rotate_left
      ·intro w'
       go_simp
       with_reducible rfl
      rotate_left
      ·simp only [Act.put, List.setIfInBounds_toArray, List.set_cons_zero, List.set_cons_succ, i64_w, i32_w]
       rfl
      refine pure_ (i := 3) (N := some 55) (v := ?_) (a' := ?_) #[false, true, false, true, false, false, false, false, false, false, false, false, false, false, false, false, false, false] rfl rfl (by kernel_rfl) (fun _ _ _ h => h) (Or.inl ⟨by rfl, ?_⟩) ?_ ?_
      rotate_left
      ·intro w'
       go_simp
       with_reducible rfl
      rotate_left
      ·simp only [Act.put, List.setIfInBounds_toArray, List.set_cons_zero, List.set_cons_succ, i64_w, i32_w]
       rfl
      refine pure_ (i := 5) (N := some 57) (v := ?_) (a' := ?_) #[false, true, false, true, false, true, false, false, false, false, false, false, false, false, false, false, false, false] rfl rfl (by kernel_rfl) (fun _ _ _ h => h) (Or.inl ⟨by rfl, ?_⟩) ?_ ?_
      rotate_left
      ·intro w'
       go_simp
       with_reducible rfl
      rotate_left
      ·simp only [Act.put, List.setIfInBounds_toArray, List.set_cons_zero, List.set_cons_succ, i64_w, i32_w]
       rfl
      refine pure_ (i := 7) (N := some 59) (v := ?_) (a' := ?_) #[false, true, false, true, false, true, false, true, false, false, false, false, false, false, false, false, false, false] rfl rfl (by kernel_rfl) (fun _ _ _ h => h) (Or.inl ⟨by rfl, ?_⟩) ?_ ?_
      rotate_left
      ·intro w'
       go_simp
       with_reducible rfl
      rotate_left
      ·simp only [Act.put, List.setIfInBounds_toArray, List.set_cons_zero, List.set_cons_succ, i64_w, i32_w]
       rfl
      refine pure_ (i := 9) (N := some 61) (v := ?_) (a' := ?_) #[false, true, false, true, false, true, false, true, false, true, false, false, false, false, false, false, false, false] rfl rfl (by kernel_rfl) (fun _ _ _ h => h) (Or.inl ⟨by rfl, ?_⟩) ?_ ?_
      rotate_left
      ·intro w'
       go_simp
       with_reducible rfl
      rotate_left
      ·simp only [Act.put, List.setIfInBounds_toArray, List.set_cons_zero, List.set_cons_succ, i64_w, i32_w]
       rfl
      refine pure_ (i := 13) (N := some 65) (v := ?_) (a' := ?_) #[false, true, false, true, false, true, false, true, false, true, false, false, false, true, false, false, false, false] rfl rfl (by kernel_rfl) (fun _ _ _ h => h) (Or.inl ⟨by rfl, ?_⟩) ?_ ?_
      rotate_left
      ·intro w'
       go_simp
       with_reducible rfl
      rotate_left
      ·simp only [Act.put, List.setIfInBounds_toArray, List.set_cons_zero, List.set_cons_succ, i64_w, i32_w]
       rfl
      refine take_ (i := 0) (N := some 52) (v := ?_) (a' := ?_) #[true, true, false, true, false, true, false, true, false, true, false, false, false, true, false, false, false, false] rfl rfl (by kernel_rfl) (fun _ _ _ h => h) (Or.inl ⟨by rfl, ?_⟩) hHeld ?_ ?_
      rotate_left
      ·rintro w' ⟨s0, s1, s2, s3, s4, s5, s6, s7, s8, s9⟩
       go_simp
       with_reducible rfl
      rotate_left
      ·simp only [Act.put, List.setIfInBounds_toArray, List.set_cons_zero, List.set_cons_succ, i64_w, i32_w]
       rfl
      refine take_ (i := 2) (N := some 54) (v := ?_) (a' := ?_) #[true, true, true, true, false, true, false, true, false, true, false, false, false, true, false, false, false, false] rfl rfl (by kernel_rfl) (fun _ _ _ h => h) (Or.inl ⟨by rfl, ?_⟩) hHeld ?_ ?_
      rotate_left
      ·rintro w' ⟨s0, s1, s2, s3, s4, s5, s6, s7, s8, s9⟩
       go_simp
       with_reducible rfl
      rotate_left
      ·simp only [Act.put, List.setIfInBounds_toArray, List.set_cons_zero, List.set_cons_succ, i64_w, i32_w]
       rfl
      refine take_ (i := 4) (N := some 56) (v := ?_) (a' := ?_) #[true, true, true, true, true, true, false, true, false, true, false, false, false, true, false, false, false, false] rfl rfl (by kernel_rfl) (fun _ _ _ h => h) (Or.inl ⟨by rfl, ?_⟩) hHeld ?_ ?_
      rotate_left
      ·rintro w' ⟨s0, s1, s2, s3, s4, s5, s6, s7, s8, s9⟩
       go_simp
       with_reducible rfl
      rotate_left
      ·simp only [Act.put, List.setIfInBounds_toArray, List.set_cons_zero, List.set_cons_succ, i64_w, i32_w]
       rfl
      refine pure_ (i := 6) (N := some 58) (v := ?_) (a' := ?_) #[true, true, true, true, true, true, true, true, false, true, false, false, false, true, false, false, false, false] rfl rfl (by kernel_rfl) (fun _ _ _ h => h) (Or.inl ⟨by rfl, ?_⟩) ?_ ?_
      rotate_left
      ·intro w'
       go_simp
       with_reducible rfl
      rotate_left
      ·simp only [Act.put, List.setIfInBounds_toArray, List.set_cons_zero, List.set_cons_succ, i64_w, i32_w]
       rfl
      refine take_ (i := 8) (N := some 60) (v := ?_) (a' := ?_) #[true, true, true, true, true, true, true, true, true, true, false, false, false, true, false, false, false, false] rfl rfl (by kernel_rfl) (fun _ _ _ h => h) (Or.inl ⟨by rfl, ?_⟩) hHeld ?_ ?_
      rotate_left
      ·rintro w' ⟨s0, s1, s2, s3, s4, s5, s6, s7, s8, s9⟩
       go_simp
       with_reducible rfl
      rotate_left
      ·simp only [Act.put, List.setIfInBounds_toArray, List.set_cons_zero, List.set_cons_succ, i64_w, i32_w]
       rfl
      refine take_ (i := 10) (N := some 62) (v := ?_) (a' := ?_) #[true, true, true, true, true, true, true, true, true, true, true, false, false, true, false, false, false, false] rfl rfl (by kernel_rfl) (fun _ _ _ h => h) (Or.inl ⟨by rfl, ?_⟩) hHeld ?_ ?_
      rotate_left
      ·rintro w' ⟨s0, s1, s2, s3, s4, s5, s6, s7, s8, s9⟩
       go_simp
       with_reducible rfl
      rotate_left
      ·simp only [Act.put, List.setIfInBounds_toArray, List.set_cons_zero, List.set_cons_succ, i64_w, i32_w]
       rfl
      refine pure_ (i := 11) (N := some 63) (v := ?_) (a' := ?_) #[true, true, true, true, true, true, true, true, true, true, true, true, false, true, false, false, false, false] rfl rfl (by kernel_rfl) (fun _ _ _ h => h) (Or.inl ⟨by rfl, ?_⟩) ?_ ?_
      rotate_left
      ·intro w'
       go_simp
       with_reducible rfl
      rotate_left
      ·simp only [Act.put, List.setIfInBounds_toArray, List.set_cons_zero, List.set_cons_succ, i64_w, i32_w]
       rfl
      refine take_ (i := 12) (N := some 64) (v := ?_) (a' := ?_) #[true, true, true, true, true, true, true, true, true, true, true, true, true, true, false, false, false, false] rfl rfl (by kernel_rfl) (fun _ _ _ h => h) (Or.inl ⟨by rfl, ?_⟩) hHeld ?_ ?_
      rotate_left
      ·rintro w' ⟨s0, s1, s2, s3, s4, s5, s6, s7, s8, s9⟩
       go_simp
       with_reducible rfl
      rotate_left
      ·simp only [Act.put, List.setIfInBounds_toArray, List.set_cons_zero, List.set_cons_succ, i64_w, i32_w]
       rfl
      refine pure_ (i := 14) (N := some 66) (v := ?_) (a' := ?_) #[true, true, true, true, true, true, true, true, true, true, true, true, true, true, true, false, false, false] rfl rfl (by kernel_rfl) (fun _ _ _ h => h) (Or.inl ⟨by rfl, ?_⟩) ?_ ?_
      rotate_left
      ·intro w'
       go_simp
       with_reducible rfl
      rotate_left
      ·simp only [Act.put, List.setIfInBounds_toArray, List.set_cons_zero, List.set_cons_succ, i64_w, i32_w]
       rfl
      refine pure_ (i := 15) (N := some 67) (v := ?_) (a' := ?_) #[true, true, true, true, true, true, true, true, true, true, true, true, true, true, true, true, false, false] rfl rfl (by kernel_rfl) (fun _ _ _ h => h) (Or.inl ⟨by rfl, ?_⟩) ?_ ?_
      rotate_left
      ·intro w'
       go_simp
       with_reducible rfl
      rotate_left
      ·simp only [Act.put, List.setIfInBounds_toArray, List.set_cons_zero, List.set_cons_succ, i64_w, i32_w]
       rfl
      refine one_ (i := 16) (N := some 68) #[true, true, true, true, true, true, true, true, true, true, true, true, true, true, true, true, true, false] rfl rfl (by kernel_rfl) (by decide) (fun K hK => ?_)
      refine goes_ Try.func57 (by kernel_rfl) rfl #[.agg #[.slice (some adq) n0 d0, .slice B1 n1 d1, .slice (some ad) n2 d2, .slice B3 n3 d3, .bool fa, .int .i64 fu, .slice B6 n6 d6], .int .i64 (q : Int), .string (dat.extract 0 140 ++ y.extract 140 y.size)] (by rfl) rfl rfl (by simp only [List.map_toArray, List.map_cons, List.map_nil]; rfl) ?_
      with_reducible refine (HCH2.out _ HBD.out).mono ?_
      rintro e w6 ⟨v6, rfl, hR6, hb6⟩
      obtain ⟨E0, E1, E2, E3, E6, g0, g1, g2, g3, g6, hl, hu, hs, hRC6⟩ := hR6.open_
      obtain rfl := hRC6.hv
      have hbx6 := blk_below (blk_below HE.out.box HBD.out) hb6
      obtain ⟨m0, m1, m2, m3, m4, m5, m6⟩ := cells7 hbx6
      obtain ⟨z0, z1, z2, z3, z4, z5, z6⟩ := froz7 hbx6
      have HR6 := Aside0.mk hR6
      have HB6 := Aside0.mk hb6
      have HBX6 := Aside0.mk hbx6
      clear hRC6 hR6 hbx6
      refine ⟨_, rfl, ?_⟩
      refine hK.out _ _ (hold10 hb6 hHeld) (fun hHeld => ?_)
      clear hK K
      refine norm_ (a' := ?_) ?_ ?_
      rotate_left
      ·show Act.put _ (some 68) _ = _
       simp only [Act.put, List.setIfInBounds_toArray, List.set_cons_zero, List.set_cons_succ, i64_w, i32_w]
       rfl
      refine last_ (i := 17) (N := none) #[true, true, true, true, true, true, true, true, true, true, true, true, true, true, true, true, true, true] rfl rfl (by kernel_rfl) (by decide) (fun K hK => ?_)
      refine skip_ (w1 := ?_) (by rfl) rfl ?_ ?_
      rotate_left
      ·go_simp
       rfl
      refine hK.out _ _ ?_
      clear hK K
      refine done_ (by kernel_rfl) ?_
      go_wp2_with fail
      have hE7 : EndAt W (set7 w6 bx (.slice E0 S2.stable.length g0) (.slice E1 S2.old.length g1) (.slice E2 S2.pend.length g2) (.slice E3 hl.length g3) (.bool S2.failed) (.int .i64 hu) (.slice E6 hs.length g6)) okk bx rb #[.slice E0 S2.stable.length g0, .slice E1 S2.old.length g1, .slice E2 S2.pend.length g2, .slice E3 hl.length g3, .bool S2.failed, .int .i64 hu, .slice E6 hs.length g6] u9 ((S.pend.take (j + 1)).filter fun a => !p a) S2 := by
       have hf : ∀ k, k ≠ bx → (set7 w6 bx (.slice E0 S2.stable.length g0) (.slice E1 S2.old.length g1) (.slice E2 S2.pend.length g2) (.slice E3 hl.length g3) (.bool S2.failed) (.int .i64 hu) (.slice E6 hs.length g6)).heap[k]? = w6.heap[k]? := fun k hk => set7_far w6 bx (.slice E0 S2.stable.length g0) (.slice E1 S2.old.length g1) (.slice E2 S2.pend.length g2) (.slice E3 hl.length g3) (.bool S2.failed) (.int .i64 hu) (.slice E6 hs.length g6) k hk
       have hbw : Below wr.heap.size wr w6 := HBD.out.trans (HB6.out.mono HBD.out.size)
       refine ⟨set7_below (HE.out.bel.trans (hbw.mono HE.out.bel.size)) LB.out.1 (.slice E0 S2.stable.length g0) (.slice E1 S2.old.length g1) (.slice E2 S2.pend.length g2) (.slice E3 hl.length g3) (.bool S2.failed) (.int .i64 hu) (.slice E6 hs.length g6), set7_blk HBX6.out (.slice E0 S2.stable.length g0) (.slice E1 S2.old.length g1) (.slice E2 S2.pend.length g2) (.slice E3 hl.length g3) (.bool S2.failed) (.int .i64 hu) (.slice E6 hs.length g6), (hf rb (fun e => LB.out.2.2.2.1 e.symm)).trans (blk_below HE.out.res hbw), ?_, ?_⟩
       ·have r1 := HR6.out.mono (ok' := fun k => okk k ∧ some k ≠ u9.ownBlock) (fun k hk hlt => hk.elim id (fun hk => by
         have h1 : wr.heap.size ≤ k := Nat.le_trans HBD.out.size hk
         exact ⟨HOKK.out k (by have := HWR.out; omega), fun e => by have := LOW.out k e.symm; omega⟩))
        exact r1.step (fun k hk _ => hf k (HOKO.out k hk.1).1)
       ·rw [HFL2.out]
        exact Kd.R_mono (Kd.R_step (Kd.R_types (Kd.R_below HE.out.row hbw) HBX6.out (by decide)) (fun k hk _ => hf k hk.2)) (fun k hk => hk.1)
      have HE7 := Aside0.mk hE7
      clear hE7 HE
      go_roundg (n2 - (j + 1))
      case measure => omega
      case rel => exact ⟨j + 1, i + 1, _, S2, _, rfl, by go_num, by go_num, by omega, Nat.le_refl _, by omega, HE7, HEF2, HFS2⟩
     ·skip
      obtain ⟨S2, hS2⟩ : ∃ S2, S2 = changeS q (dat.extract 0 140 ++ y.extract 140 y.size) S' := ⟨_, rfl⟩
      have HEF2 := Aside0.mk (show endF p nums (S.pend.take (j + 1)) (0, S) = (i + 1, S2) by rw [hS2]; exact HEND.out 140 HBB.out)
      have HFS2 := Aside0.mk (show Fine kk S2 by rw [hS2]; exact HFS.out.change q HQN.out _ (by rw [ByteArray.size_append, ByteArray.size_extract, ByteArray.size_extract]; omega))
      have HCH2 := Aside0.mk (fun (w : World) (hb : Below wr.heap.size wr w) => HCH.out (dat.extract 0 140 ++ y.extract 140 y.size) w hb)
      rw [← hS2] at HCH2
      have s9 : ¬ 9223372036854775807 < y.size := by omega
      have s6 : ¬ 9223372036854775807 < min 140 dat.size + (y.size - 140) := by omega
      have s7 : 140 ≤ dat.size := by omega
      have s8 : 140 ≤ y.size := by omega
      have s7z : (140 : Int) ≤ (dat.size : Int) := by omega
      have s8z : (140 : Int) ≤ (y.size : Int) := by omega
      clear hS2 HEND HCH hysz hdsz
      go_wp2_with fail
      obtain ⟨w5, hw5⟩ : ∃ w5, w5 = wr.alloc (.cells #[.int .i64 a.f0, .int .i64 (q : Int), .string dat] 99) := ⟨_, rfl⟩
      have hb5 : Below wr.heap.size wr w5 := by rw [hw5]; exact below_alloc (Below.refl _ _) _
      obtain ⟨tb, htb⟩ : ∃ tb, tb = wr.heap.size := ⟨_, rfl⟩
      have t5 : w5.heap[tb]? = some (.cells #[.int .i64 a.f0, .int .i64 (q : Int), .string dat] 99 (0, 0)) := by rw [hw5, htb]; exact blk_new _ _
      rw [← hw5, ← htb]
      have hbx5 := blk_below HE.out.box hb5
      obtain ⟨p0, p1, p2, p3, p4, p5, p6⟩ := cells7 hbx5
      have t1 : w5.cell? ⟨tb, 1, none⟩ = some (.int .i64 (q : Int)) := by rw [blk_cell t5]; rfl
      have t2 : w5.cell? ⟨tb, 2, none⟩ = some (.string dat) := by rw [blk_cell t5]; rfl
      have ty : w5.cell? (adq.add q) = some (.string y) := (hb5.cell hyb).trans y0
      have HBD := Aside0.mk (show Below wr.heap.size wr w5.drew from hb5.drew)
      have LOW := Aside0.mk (show ∀ b, u9.ownBlock = some b → b < wr.heap.size from Kd.R_lt HE.out.row)
      have HWR := Aside0.mk (show W.heap.size + 1 + 1 ≤ wr.heap.size by have := blk_lt HE.out.res; have := RBE.out; omega)
      clear hw5 htb hb5 t5 hbx5 k0 k1 k2 k3 k4 k5 k6 h0 h1 h2 lbx hba hba0 hyb hyb0 y0
      refine start_ (n := 18) (S := fun w' => w'.cell? ⟨bx, 0, none⟩ = some (.slice (some adq) n0 d0) ∧ w'.cell? ⟨bx, 1, none⟩ = some (.slice B1 n1 d1) ∧ w'.cell? ⟨bx, 2, none⟩ = some (.slice (some ad) n2 d2) ∧ w'.cell? ⟨bx, 3, none⟩ = some (.slice B3 n3 d3) ∧ w'.cell? ⟨bx, 4, none⟩ = some (.bool fa) ∧ w'.cell? ⟨bx, 5, none⟩ = some (.int .i64 fu) ∧ w'.cell? ⟨bx, 6, none⟩ = some (.slice B6 n6 d6) ∧ w'.cell? ⟨tb, 1, none⟩ = some (.int .i64 (q : Int)) ∧ w'.cell? ⟨tb, 2, none⟩ = some (.string dat) ∧ w'.cell? (adq.add q) = some (.string y)) (ds := [17]) #[false, false, false, false, false, false, false, false, false, false, false, false, false, false, false, false, false, false] (by kernel_rfl) rfl rfl ⟨p0, p1, p2, p3, p4, p5, p6, t1, t2, ty⟩ (fun hHeld => ?_)
      refine pure_ (i := 1) (N := some 53) (v := ?_) (a' := ?_) #[false, true, false, false, false, false, false, false, false, false, false, false, false, false, false, false, false, false] rfl rfl (by kernel_rfl) (fun _ _ _ h => h) (Or.inl ⟨by rfl, ?_⟩) ?_ ?_
      rotate_left
      ·intro w'
       go_simp
       with_reducible rfl
      rotate_left
      ·simp only [Act.put, List.setIfInBounds_toArray, List.set_cons_zero, List.set_cons_succ, i64_w, i32_w]
       rfl
      refine pure_ (i := 3) (N := some 55) (v := ?_) (a' := ?_) #[false, true, false, true, false, false, false, false, false, false, false, false, false, false, false, false, false, false] rfl rfl (by kernel_rfl) (fun _ _ _ h => h) (Or.inl ⟨by rfl, ?_⟩) ?_ ?_
      rotate_left
      ·intro w'
       go_simp
       with_reducible rfl
      rotate_left
      ·simp only [Act.put, List.setIfInBounds_toArray, List.set_cons_zero, List.set_cons_succ, i64_w, i32_w]
       rfl
      refine pure_ (i := 5) (N := some 57) (v := ?_) (a' := ?_) #[false, true, false, true, false, true, false, false, false, false, false, false, false, false, false, false, false, false] rfl rfl (by kernel_rfl) (fun _ _ _ h => h) (Or.inl ⟨by rfl, ?_⟩) ?_ ?_
      rotate_left
      ·intro w'
       go_simp
       with_reducible rfl
      rotate_left
      ·simp only [Act.put, List.setIfInBounds_toArray, List.set_cons_zero, List.set_cons_succ, i64_w, i32_w]
       rfl
      refine pure_ (i := 7) (N := some 59) (v := ?_) (a' := ?_) #[false, true, false, true, false, true, false, true, false, false, false, false, false, false, false, false, false, false] rfl rfl (by kernel_rfl) (fun _ _ _ h => h) (Or.inl ⟨by rfl, ?_⟩) ?_ ?_
      rotate_left
      ·intro w'
       go_simp
       with_reducible rfl
      rotate_left
      ·simp only [Act.put, List.setIfInBounds_toArray, List.set_cons_zero, List.set_cons_succ, i64_w, i32_w]
       rfl
      refine pure_ (i := 9) (N := some 61) (v := ?_) (a' := ?_) #[false, true, false, true, false, true, false, true, false, true, false, false, false, false, false, false, false, false] rfl rfl (by kernel_rfl) (fun _ _ _ h => h) (Or.inl ⟨by rfl, ?_⟩) ?_ ?_
      rotate_left
      ·intro w'
       go_simp
       with_reducible rfl
      rotate_left
      ·simp only [Act.put, List.setIfInBounds_toArray, List.set_cons_zero, List.set_cons_succ, i64_w, i32_w]
       rfl
      refine pure_ (i := 13) (N := some 65) (v := ?_) (a' := ?_) #[false, true, false, true, false, true, false, true, false, true, false, false, false, true, false, false, false, false] rfl rfl (by kernel_rfl) (fun _ _ _ h => h) (Or.inl ⟨by rfl, ?_⟩) ?_ ?_
      rotate_left
      ·intro w'
       go_simp
       with_reducible rfl
      rotate_left
      ·simp only [Act.put, List.setIfInBounds_toArray, List.set_cons_zero, List.set_cons_succ, i64_w, i32_w]
       rfl
      refine take_ (i := 0) (N := some 52) (v := ?_) (a' := ?_) #[true, true, false, true, false, true, false, true, false, true, false, false, false, true, false, false, false, false] rfl rfl (by kernel_rfl) (fun _ _ _ h => h) (Or.inl ⟨by rfl, ?_⟩) hHeld ?_ ?_
      rotate_left
      ·rintro w' ⟨s0, s1, s2, s3, s4, s5, s6, s7, s8, s9⟩
       go_simp
       with_reducible rfl
      rotate_left
      ·simp only [Act.put, List.setIfInBounds_toArray, List.set_cons_zero, List.set_cons_succ, i64_w, i32_w]
       rfl
      refine take_ (i := 2) (N := some 54) (v := ?_) (a' := ?_) #[true, true, true, true, false, true, false, true, false, true, false, false, false, true, false, false, false, false] rfl rfl (by kernel_rfl) (fun _ _ _ h => h) (Or.inl ⟨by rfl, ?_⟩) hHeld ?_ ?_
      rotate_left
      ·rintro w' ⟨s0, s1, s2, s3, s4, s5, s6, s7, s8, s9⟩
       go_simp
       with_reducible rfl
      rotate_left
      ·simp only [Act.put, List.setIfInBounds_toArray, List.set_cons_zero, List.set_cons_succ, i64_w, i32_w]
       rfl
      refine take_ (i := 4) (N := some 56) (v := ?_) (a' := ?_) #[true, true, true, true, true, true, false, true, false, true, false, false, false, true, false, false, false, false] rfl rfl (by kernel_rfl) (fun _ _ _ h => h) (Or.inl ⟨by rfl, ?_⟩) hHeld ?_ ?_
      rotate_left
      ·rintro w' ⟨s0, s1, s2, s3, s4, s5, s6, s7, s8, s9⟩
       go_simp
       with_reducible rfl
      rotate_left
      ·simp only [Act.put, List.setIfInBounds_toArray, List.set_cons_zero, List.set_cons_succ, i64_w, i32_w]
       rfl
      refine pure_ (i := 6) (N := some 58) (v := ?_) (a' := ?_) #[true, true, true, true, true, true, true, true, false, true, false, false, false, true, false, false, false, false] rfl rfl (by kernel_rfl) (fun _ _ _ h => h) (Or.inl ⟨by rfl, ?_⟩) ?_ ?_
      rotate_left
      ·intro w'
       go_simp
       with_reducible rfl
      rotate_left
      ·simp only [Act.put, List.setIfInBounds_toArray, List.set_cons_zero, List.set_cons_succ, i64_w, i32_w]
       rfl
      refine take_ (i := 8) (N := some 60) (v := ?_) (a' := ?_) #[true, true, true, true, true, true, true, true, true, true, false, false, false, true, false, false, false, false] rfl rfl (by kernel_rfl) (fun _ _ _ h => h) (Or.inl ⟨by rfl, ?_⟩) hHeld ?_ ?_
      rotate_left
      ·rintro w' ⟨s0, s1, s2, s3, s4, s5, s6, s7, s8, s9⟩
       go_simp
       with_reducible rfl
      rotate_left
      ·simp only [Act.put, List.setIfInBounds_toArray, List.set_cons_zero, List.set_cons_succ, i64_w, i32_w]
       rfl
      refine take_ (i := 10) (N := some 62) (v := ?_) (a' := ?_) #[true, true, true, true, true, true, true, true, true, true, true, false, false, true, false, false, false, false] rfl rfl (by kernel_rfl) (fun _ _ _ h => h) (Or.inl ⟨by rfl, ?_⟩) hHeld ?_ ?_
      rotate_left
      ·rintro w' ⟨s0, s1, s2, s3, s4, s5, s6, s7, s8, s9⟩
       go_simp
       with_reducible rfl
      rotate_left
      ·simp only [Act.put, List.setIfInBounds_toArray, List.set_cons_zero, List.set_cons_succ, i64_w, i32_w]
       rfl
      refine pure_ (i := 11) (N := some 63) (v := ?_) (a' := ?_) #[true, true, true, true, true, true, true, true, true, true, true, true, false, true, false, false, false, false] rfl rfl (by kernel_rfl) (fun _ _ _ h => h) (Or.inl ⟨by rfl, ?_⟩) ?_ ?_
      rotate_left
      ·intro w'
       go_simp
       with_reducible rfl
      rotate_left
      ·simp only [Act.put, List.setIfInBounds_toArray, List.set_cons_zero, List.set_cons_succ, i64_w, i32_w]
       rfl
      refine take_ (i := 12) (N := some 64) (v := ?_) (a' := ?_) #[true, true, true, true, true, true, true, true, true, true, true, true, true, true, false, false, false, false] rfl rfl (by kernel_rfl) (fun _ _ _ h => h) (Or.inl ⟨by rfl, ?_⟩) hHeld ?_ ?_
      rotate_left
      ·rintro w' ⟨s0, s1, s2, s3, s4, s5, s6, s7, s8, s9⟩
       go_simp
       with_reducible rfl
      rotate_left
      ·simp only [Act.put, List.setIfInBounds_toArray, List.set_cons_zero, List.set_cons_succ, i64_w, i32_w]
       rfl
      refine pure_ (i := 14) (N := some 66) (v := ?_) (a' := ?_) #[true, true, true, true, true, true, true, true, true, true, true, true, true, true, true, false, false, false] rfl rfl (by kernel_rfl) (fun _ _ _ h => h) (Or.inl ⟨by rfl, ?_⟩) ?_ ?_
      rotate_left
      ·intro w'
       go_simp
       with_reducible rfl
      rotate_left
      ·simp only [Act.put, List.setIfInBounds_toArray, List.set_cons_zero, List.set_cons_succ, i64_w, i32_w]
       rfl
      refine pure_ (i := 15) (N := some 67) (v := ?_) (a' := ?_) #[true, true, true, true, true, true, true, true, true, true, true, true, true, true, true, true, false, false] rfl rfl (by kernel_rfl) (fun _ _ _ h => h) (Or.inl ⟨by rfl, ?_⟩) ?_ ?_
      rotate_left
      ·intro w'
       go_simp
       with_reducible rfl
      rotate_left
      ·simp only [Act.put, List.setIfInBounds_toArray, List.set_cons_zero, List.set_cons_succ, i64_w, i32_w]
       rfl
      refine one_ (i := 16) (N := some 68) #[true, true, true, true, true, true, true, true, true, true, true, true, true, true, true, true, true, false] rfl rfl (by kernel_rfl) (by decide) (fun K hK => ?_)
      refine goes_ Try.func57 (by kernel_rfl) rfl #[.agg #[.slice (some adq) n0 d0, .slice B1 n1 d1, .slice (some ad) n2 d2, .slice B3 n3 d3, .bool fa, .int .i64 fu, .slice B6 n6 d6], .int .i64 (q : Int), .string (dat.extract 0 140 ++ y.extract 140 y.size)] (by rfl) rfl rfl (by simp only [List.map_toArray, List.map_cons, List.map_nil]; rfl) ?_
      with_reducible refine (HCH2.out _ HBD.out).mono ?_
      rintro e w6 ⟨v6, rfl, hR6, hb6⟩
      obtain ⟨E0, E1, E2, E3, E6, g0, g1, g2, g3, g6, hl, hu, hs, hRC6⟩ := hR6.open_
      obtain rfl := hRC6.hv
      have hbx6 := blk_below (blk_below HE.out.box HBD.out) hb6
      obtain ⟨m0, m1, m2, m3, m4, m5, m6⟩ := cells7 hbx6
      obtain ⟨z0, z1, z2, z3, z4, z5, z6⟩ := froz7 hbx6
      have HR6 := Aside0.mk hR6
      have HB6 := Aside0.mk hb6
      have HBX6 := Aside0.mk hbx6
      clear hRC6 hR6 hbx6
      refine ⟨_, rfl, ?_⟩
      refine hK.out _ _ (hold10 hb6 hHeld) (fun hHeld => ?_)
      clear hK K
      refine norm_ (a' := ?_) ?_ ?_
      rotate_left
      ·show Act.put _ (some 68) _ = _
       simp only [Act.put, List.setIfInBounds_toArray, List.set_cons_zero, List.set_cons_succ, i64_w, i32_w]
       rfl
      refine last_ (i := 17) (N := none) #[true, true, true, true, true, true, true, true, true, true, true, true, true, true, true, true, true, true] rfl rfl (by kernel_rfl) (by decide) (fun K hK => ?_)
      refine skip_ (w1 := ?_) (by rfl) rfl ?_ ?_
      rotate_left
      ·go_simp
       rfl
      refine hK.out _ _ ?_
      clear hK K
      refine done_ (by kernel_rfl) ?_
      go_wp2_with fail
      have hE7 : EndAt W (set7 w6 bx (.slice E0 S2.stable.length g0) (.slice E1 S2.old.length g1) (.slice E2 S2.pend.length g2) (.slice E3 hl.length g3) (.bool S2.failed) (.int .i64 hu) (.slice E6 hs.length g6)) okk bx rb #[.slice E0 S2.stable.length g0, .slice E1 S2.old.length g1, .slice E2 S2.pend.length g2, .slice E3 hl.length g3, .bool S2.failed, .int .i64 hu, .slice E6 hs.length g6] u9 ((S.pend.take (j + 1)).filter fun a => !p a) S2 := by
       have hf : ∀ k, k ≠ bx → (set7 w6 bx (.slice E0 S2.stable.length g0) (.slice E1 S2.old.length g1) (.slice E2 S2.pend.length g2) (.slice E3 hl.length g3) (.bool S2.failed) (.int .i64 hu) (.slice E6 hs.length g6)).heap[k]? = w6.heap[k]? := fun k hk => set7_far w6 bx (.slice E0 S2.stable.length g0) (.slice E1 S2.old.length g1) (.slice E2 S2.pend.length g2) (.slice E3 hl.length g3) (.bool S2.failed) (.int .i64 hu) (.slice E6 hs.length g6) k hk
       have hbw : Below wr.heap.size wr w6 := HBD.out.trans (HB6.out.mono HBD.out.size)
       refine ⟨set7_below (HE.out.bel.trans (hbw.mono HE.out.bel.size)) LB.out.1 (.slice E0 S2.stable.length g0) (.slice E1 S2.old.length g1) (.slice E2 S2.pend.length g2) (.slice E3 hl.length g3) (.bool S2.failed) (.int .i64 hu) (.slice E6 hs.length g6), set7_blk HBX6.out (.slice E0 S2.stable.length g0) (.slice E1 S2.old.length g1) (.slice E2 S2.pend.length g2) (.slice E3 hl.length g3) (.bool S2.failed) (.int .i64 hu) (.slice E6 hs.length g6), (hf rb (fun e => LB.out.2.2.2.1 e.symm)).trans (blk_below HE.out.res hbw), ?_, ?_⟩
       ·have r1 := HR6.out.mono (ok' := fun k => okk k ∧ some k ≠ u9.ownBlock) (fun k hk hlt => hk.elim id (fun hk => by
         have h1 : wr.heap.size ≤ k := Nat.le_trans HBD.out.size hk
         exact ⟨HOKK.out k (by have := HWR.out; omega), fun e => by have := LOW.out k e.symm; omega⟩))
        exact r1.step (fun k hk _ => hf k (HOKO.out k hk.1).1)
       ·rw [HFL2.out]
        exact Kd.R_mono (Kd.R_step (Kd.R_types (Kd.R_below HE.out.row hbw) HBX6.out (by decide)) (fun k hk _ => hf k hk.2)) (fun k hk => hk.1)
      have HE7 := Aside0.mk hE7
      clear hE7 HE
      go_roundg (n2 - (j + 1))
      case measure => omega
      case rel => exact ⟨j + 1, i + 1, _, S2, _, rfl, by go_num, by go_num, by omega, Nat.le_refl _, by omega, HE7, HEF2, HFS2⟩
    | false =>
     by_cases hil : i < l.length
     ·have hilz : (i : Int) < (l.length : Int) := by omega
      obtain ⟨adl, el, y1⟩ := Kd.at_int (Kd.C_below HC.out HE.out.bel) (i : Int) (by omega) hilz
      rw [rd_at l i hil, Int.toNat_natCast] at y1
      have hbv : bytesAt l i = (min (max 0 l[i]) 140).toNat := by unfold bytesAt; rw [List.getElem?_eq_getElem hil]
      obtain ⟨x, hx'⟩ : ∃ x, x = l[i] := ⟨_, rfl⟩
      rw [← hx'] at y1 hbv
      have hyl := World.block_lt_of_cell? wr _ y1
      have hyl0 : adl.block < wr.heap.size := by
       have e : (adl.add i).block = adl.block := by unfold Addr.add; split <;> rfl
       rw [e] at hyl; exact hyl
      subst el
      clear hx'
      by_cases hx0 : 0 < x
      ·by_cases hx1 : 140 < x
       ·have HBB := Aside0.mk (show bytesAt nums i = 140 by rw [HNB.out]; show bytesAt l i = 140; rw [hbv]; omega)
        clear hbv HNB
        rcases hx with s1 | ⟨s1, s2⟩
        ·skip
         obtain ⟨S2, hS2⟩ : ∃ S2, S2 = changeS q (dat.extract 0 140 ++ y.extract 140 y.size) S' := ⟨_, rfl⟩
         have HEF2 := Aside0.mk (show endF p nums (S.pend.take (j + 1)) (0, S) = (i + 1, S2) by rw [hS2]; exact HEND.out 140 HBB.out)
         have HFS2 := Aside0.mk (show Fine kk S2 by rw [hS2]; exact HFS.out.change q HQN.out _ (by rw [ByteArray.size_append, ByteArray.size_extract, ByteArray.size_extract]; omega))
         have HCH2 := Aside0.mk (fun (w : World) (hb : Below wr.heap.size wr w) => HCH.out (dat.extract 0 140 ++ y.extract 140 y.size) w hb)
         rw [← hS2] at HCH2
         have s9 : ¬ 9223372036854775807 < y.size := by omega
         have s6 : ¬ 9223372036854775807 < min 140 dat.size + (y.size - 140) := by omega
         have s7 : 140 ≤ dat.size := by omega
         have s8 : 140 ≤ y.size := by omega
         have s7z : (140 : Int) ≤ (dat.size : Int) := by omega
         have s8z : (140 : Int) ≤ (y.size : Int) := by omega
         clear hS2 HEND HCH hysz hdsz
         go_wp2_with fail
         obtain ⟨w5, hw5⟩ : ∃ w5, w5 = wr.alloc (.cells #[.int .i64 a.f0, .int .i64 (q : Int), .string dat] 99) := ⟨_, rfl⟩
         have hb5 : Below wr.heap.size wr w5 := by rw [hw5]; exact below_alloc (Below.refl _ _) _
         obtain ⟨tb, htb⟩ : ∃ tb, tb = wr.heap.size := ⟨_, rfl⟩
         have t5 : w5.heap[tb]? = some (.cells #[.int .i64 a.f0, .int .i64 (q : Int), .string dat] 99 (0, 0)) := by rw [hw5, htb]; exact blk_new _ _
         rw [← hw5, ← htb]
         have hbx5 := blk_below HE.out.box hb5
         obtain ⟨p0, p1, p2, p3, p4, p5, p6⟩ := cells7 hbx5
         have t1 : w5.cell? ⟨tb, 1, none⟩ = some (.int .i64 (q : Int)) := by rw [blk_cell t5]; rfl
         have t2 : w5.cell? ⟨tb, 2, none⟩ = some (.string dat) := by rw [blk_cell t5]; rfl
         have ty : w5.cell? (adq.add q) = some (.string y) := (hb5.cell hyb).trans y0
         have HBD := Aside0.mk (show Below wr.heap.size wr w5.drew from hb5.drew)
         have LOW := Aside0.mk (show ∀ b, u9.ownBlock = some b → b < wr.heap.size from Kd.R_lt HE.out.row)
         have HWR := Aside0.mk (show W.heap.size + 1 + 1 ≤ wr.heap.size by have := blk_lt HE.out.res; have := RBE.out; omega)
         clear hw5 htb hb5 t5 hbx5 k0 k1 k2 k3 k4 k5 k6 h0 h1 h2 lbx hba hba0 hyb hyb0 y0
         refine start_ (n := 18) (S := fun w' => w'.cell? ⟨bx, 0, none⟩ = some (.slice (some adq) n0 d0) ∧ w'.cell? ⟨bx, 1, none⟩ = some (.slice B1 n1 d1) ∧ w'.cell? ⟨bx, 2, none⟩ = some (.slice (some ad) n2 d2) ∧ w'.cell? ⟨bx, 3, none⟩ = some (.slice B3 n3 d3) ∧ w'.cell? ⟨bx, 4, none⟩ = some (.bool fa) ∧ w'.cell? ⟨bx, 5, none⟩ = some (.int .i64 fu) ∧ w'.cell? ⟨bx, 6, none⟩ = some (.slice B6 n6 d6) ∧ w'.cell? ⟨tb, 1, none⟩ = some (.int .i64 (q : Int)) ∧ w'.cell? ⟨tb, 2, none⟩ = some (.string dat) ∧ w'.cell? (adq.add q) = some (.string y)) (ds := [17]) #[false, false, false, false, false, false, false, false, false, false, false, false, false, false, false, false, false, false] (by kernel_rfl) rfl rfl ⟨p0, p1, p2, p3, p4, p5, p6, t1, t2, ty⟩ (fun hHeld => ?_)
         refine pure_ (i := 1) (N := some 53) (v := ?_) (a' := ?_) #[false, true, false, false, false, false, false, false, false, false, false, false, false, false, false, false, false, false] rfl rfl (by kernel_rfl) (fun _ _ _ h => h) (Or.inl ⟨by rfl, ?_⟩) ?_ ?_
         rotate_left
         ·intro w'
          go_simp
          with_reducible rfl
         rotate_left
         ·simp only [Act.put, List.setIfInBounds_toArray, List.set_cons_zero, List.set_cons_succ, i64_w, i32_w]
          rfl
         refine pure_ (i := 3) (N := some 55) (v := ?_) (a' := ?_) #[false, true, false, true, false, false, false, false, false, false, false, false, false, false, false, false, false, false] rfl rfl (by kernel_rfl) (fun _ _ _ h => h) (Or.inl ⟨by rfl, ?_⟩) ?_ ?_
         rotate_left
         ·intro w'
          go_simp
          with_reducible rfl
         rotate_left
         ·simp only [Act.put, List.setIfInBounds_toArray, List.set_cons_zero, List.set_cons_succ, i64_w, i32_w]
          rfl
         refine pure_ (i := 5) (N := some 57) (v := ?_) (a' := ?_) #[false, true, false, true, false, true, false, false, false, false, false, false, false, false, false, false, false, false] rfl rfl (by kernel_rfl) (fun _ _ _ h => h) (Or.inl ⟨by rfl, ?_⟩) ?_ ?_
         rotate_left
         ·intro w'
          go_simp
          with_reducible rfl
         rotate_left
         ·simp only [Act.put, List.setIfInBounds_toArray, List.set_cons_zero, List.set_cons_succ, i64_w, i32_w]
          rfl
         refine pure_ (i := 7) (N := some 59) (v := ?_) (a' := ?_) #[false, true, false, true, false, true, false, true, false, false, false, false, false, false, false, false, false, false] rfl rfl (by kernel_rfl) (fun _ _ _ h => h) (Or.inl ⟨by rfl, ?_⟩) ?_ ?_
         rotate_left
         ·intro w'
          go_simp
          with_reducible rfl
         rotate_left
         ·simp only [Act.put, List.setIfInBounds_toArray, List.set_cons_zero, List.set_cons_succ, i64_w, i32_w]
          rfl
         refine pure_ (i := 9) (N := some 61) (v := ?_) (a' := ?_) #[false, true, false, true, false, true, false, true, false, true, false, false, false, false, false, false, false, false] rfl rfl (by kernel_rfl) (fun _ _ _ h => h) (Or.inl ⟨by rfl, ?_⟩) ?_ ?_
         rotate_left
         ·intro w'
          go_simp
          with_reducible rfl
         rotate_left
         ·simp only [Act.put, List.setIfInBounds_toArray, List.set_cons_zero, List.set_cons_succ, i64_w, i32_w]
          rfl
         refine pure_ (i := 13) (N := some 65) (v := ?_) (a' := ?_) #[false, true, false, true, false, true, false, true, false, true, false, false, false, true, false, false, false, false] rfl rfl (by kernel_rfl) (fun _ _ _ h => h) (Or.inl ⟨by rfl, ?_⟩) ?_ ?_
         rotate_left
         ·intro w'
          go_simp
          with_reducible rfl
         rotate_left
         ·simp only [Act.put, List.setIfInBounds_toArray, List.set_cons_zero, List.set_cons_succ, i64_w, i32_w]
          rfl
         refine take_ (i := 0) (N := some 52) (v := ?_) (a' := ?_) #[true, true, false, true, false, true, false, true, false, true, false, false, false, true, false, false, false, false] rfl rfl (by kernel_rfl) (fun _ _ _ h => h) (Or.inl ⟨by rfl, ?_⟩) hHeld ?_ ?_
         rotate_left
         ·rintro w' ⟨s0, s1, s2, s3, s4, s5, s6, s7, s8, s9⟩
          go_simp
          with_reducible rfl
         rotate_left
         ·simp only [Act.put, List.setIfInBounds_toArray, List.set_cons_zero, List.set_cons_succ, i64_w, i32_w]
          rfl
         refine take_ (i := 2) (N := some 54) (v := ?_) (a' := ?_) #[true, true, true, true, false, true, false, true, false, true, false, false, false, true, false, false, false, false] rfl rfl (by kernel_rfl) (fun _ _ _ h => h) (Or.inl ⟨by rfl, ?_⟩) hHeld ?_ ?_
         rotate_left
         ·rintro w' ⟨s0, s1, s2, s3, s4, s5, s6, s7, s8, s9⟩
          go_simp
          with_reducible rfl
         rotate_left
         ·simp only [Act.put, List.setIfInBounds_toArray, List.set_cons_zero, List.set_cons_succ, i64_w, i32_w]
          rfl
         refine take_ (i := 4) (N := some 56) (v := ?_) (a' := ?_) #[true, true, true, true, true, true, false, true, false, true, false, false, false, true, false, false, false, false] rfl rfl (by kernel_rfl) (fun _ _ _ h => h) (Or.inl ⟨by rfl, ?_⟩) hHeld ?_ ?_
         rotate_left
         ·rintro w' ⟨s0, s1, s2, s3, s4, s5, s6, s7, s8, s9⟩
          go_simp
          with_reducible rfl
         rotate_left
         ·simp only [Act.put, List.setIfInBounds_toArray, List.set_cons_zero, List.set_cons_succ, i64_w, i32_w]
          rfl
         refine pure_ (i := 6) (N := some 58) (v := ?_) (a' := ?_) #[true, true, true, true, true, true, true, true, false, true, false, false, false, true, false, false, false, false] rfl rfl (by kernel_rfl) (fun _ _ _ h => h) (Or.inl ⟨by rfl, ?_⟩) ?_ ?_
         rotate_left
         ·intro w'
          go_simp
          with_reducible rfl
         rotate_left
         ·simp only [Act.put, List.setIfInBounds_toArray, List.set_cons_zero, List.set_cons_succ, i64_w, i32_w]
          rfl
         refine take_ (i := 8) (N := some 60) (v := ?_) (a' := ?_) #[true, true, true, true, true, true, true, true, true, true, false, false, false, true, false, false, false, false] rfl rfl (by kernel_rfl) (fun _ _ _ h => h) (Or.inl ⟨by rfl, ?_⟩) hHeld ?_ ?_
         rotate_left
         ·rintro w' ⟨s0, s1, s2, s3, s4, s5, s6, s7, s8, s9⟩
          go_simp
          with_reducible rfl
         rotate_left
         ·simp only [Act.put, List.setIfInBounds_toArray, List.set_cons_zero, List.set_cons_succ, i64_w, i32_w]
          rfl
         refine take_ (i := 10) (N := some 62) (v := ?_) (a' := ?_) #[true, true, true, true, true, true, true, true, true, true, true, false, false, true, false, false, false, false] rfl rfl (by kernel_rfl) (fun _ _ _ h => h) (Or.inl ⟨by rfl, ?_⟩) hHeld ?_ ?_
         rotate_left
         ·rintro w' ⟨s0, s1, s2, s3, s4, s5, s6, s7, s8, s9⟩
          go_simp
          with_reducible rfl
         rotate_left
         ·simp only [Act.put, List.setIfInBounds_toArray, List.set_cons_zero, List.set_cons_succ, i64_w, i32_w]
          rfl
         refine pure_ (i := 11) (N := some 63) (v := ?_) (a' := ?_) #[true, true, true, true, true, true, true, true, true, true, true, true, false, true, false, false, false, false] rfl rfl (by kernel_rfl) (fun _ _ _ h => h) (Or.inl ⟨by rfl, ?_⟩) ?_ ?_
         rotate_left
         ·intro w'
          go_simp
          with_reducible rfl
         rotate_left
         ·simp only [Act.put, List.setIfInBounds_toArray, List.set_cons_zero, List.set_cons_succ, i64_w, i32_w]
          rfl
         refine take_ (i := 12) (N := some 64) (v := ?_) (a' := ?_) #[true, true, true, true, true, true, true, true, true, true, true, true, true, true, false, false, false, false] rfl rfl (by kernel_rfl) (fun _ _ _ h => h) (Or.inl ⟨by rfl, ?_⟩) hHeld ?_ ?_
         rotate_left
         ·rintro w' ⟨s0, s1, s2, s3, s4, s5, s6, s7, s8, s9⟩
          go_simp
          with_reducible rfl
         rotate_left
         ·simp only [Act.put, List.setIfInBounds_toArray, List.set_cons_zero, List.set_cons_succ, i64_w, i32_w]
          rfl
         refine pure_ (i := 14) (N := some 66) (v := ?_) (a' := ?_) #[true, true, true, true, true, true, true, true, true, true, true, true, true, true, true, false, false, false] rfl rfl (by kernel_rfl) (fun _ _ _ h => h) (Or.inl ⟨by rfl, ?_⟩) ?_ ?_
         rotate_left
         ·intro w'
          go_simp
          with_reducible rfl
         rotate_left
         ·simp only [Act.put, List.setIfInBounds_toArray, List.set_cons_zero, List.set_cons_succ, i64_w, i32_w]
          rfl
         refine pure_ (i := 15) (N := some 67) (v := ?_) (a' := ?_) #[true, true, true, true, true, true, true, true, true, true, true, true, true, true, true, true, false, false] rfl rfl (by kernel_rfl) (fun _ _ _ h => h) (Or.inl ⟨by rfl, ?_⟩) ?_ ?_
         rotate_left
         ·intro w'
          go_simp
          with_reducible rfl
         rotate_left
         ·simp only [Act.put, List.setIfInBounds_toArray, List.set_cons_zero, List.set_cons_succ, i64_w, i32_w]
          rfl
         refine one_ (i := 16) (N := some 68) #[true, true, true, true, true, true, true, true, true, true, true, true, true, true, true, true, true, false] rfl rfl (by kernel_rfl) (by decide) (fun K hK => ?_)
         refine goes_ Try.func57 (by kernel_rfl) rfl #[.agg #[.slice (some adq) n0 d0, .slice B1 n1 d1, .slice (some ad) n2 d2, .slice B3 n3 d3, .bool fa, .int .i64 fu, .slice B6 n6 d6], .int .i64 (q : Int), .string (dat.extract 0 140 ++ y.extract 140 y.size)] (by rfl) rfl rfl (by simp only [List.map_toArray, List.map_cons, List.map_nil]; rfl) ?_
         with_reducible refine (HCH2.out _ HBD.out).mono ?_
         rintro e w6 ⟨v6, rfl, hR6, hb6⟩
         obtain ⟨E0, E1, E2, E3, E6, g0, g1, g2, g3, g6, hl, hu, hs, hRC6⟩ := hR6.open_
         obtain rfl := hRC6.hv
         have hbx6 := blk_below (blk_below HE.out.box HBD.out) hb6
         obtain ⟨m0, m1, m2, m3, m4, m5, m6⟩ := cells7 hbx6
         obtain ⟨z0, z1, z2, z3, z4, z5, z6⟩ := froz7 hbx6
         have HR6 := Aside0.mk hR6
         have HB6 := Aside0.mk hb6
         have HBX6 := Aside0.mk hbx6
         clear hRC6 hR6 hbx6
         refine ⟨_, rfl, ?_⟩
         refine hK.out _ _ (hold10 hb6 hHeld) (fun hHeld => ?_)
         clear hK K
         refine norm_ (a' := ?_) ?_ ?_
         rotate_left
         ·show Act.put _ (some 68) _ = _
          simp only [Act.put, List.setIfInBounds_toArray, List.set_cons_zero, List.set_cons_succ, i64_w, i32_w]
          rfl
         refine last_ (i := 17) (N := none) #[true, true, true, true, true, true, true, true, true, true, true, true, true, true, true, true, true, true] rfl rfl (by kernel_rfl) (by decide) (fun K hK => ?_)
         refine skip_ (w1 := ?_) (by rfl) rfl ?_ ?_
         rotate_left
         ·go_simp
          rfl
         refine hK.out _ _ ?_
         clear hK K
         refine done_ (by kernel_rfl) ?_
         go_wp2_with fail
         have hE7 : EndAt W (set7 w6 bx (.slice E0 S2.stable.length g0) (.slice E1 S2.old.length g1) (.slice E2 S2.pend.length g2) (.slice E3 hl.length g3) (.bool S2.failed) (.int .i64 hu) (.slice E6 hs.length g6)) okk bx rb #[.slice E0 S2.stable.length g0, .slice E1 S2.old.length g1, .slice E2 S2.pend.length g2, .slice E3 hl.length g3, .bool S2.failed, .int .i64 hu, .slice E6 hs.length g6] u9 ((S.pend.take (j + 1)).filter fun a => !p a) S2 := by
          have hf : ∀ k, k ≠ bx → (set7 w6 bx (.slice E0 S2.stable.length g0) (.slice E1 S2.old.length g1) (.slice E2 S2.pend.length g2) (.slice E3 hl.length g3) (.bool S2.failed) (.int .i64 hu) (.slice E6 hs.length g6)).heap[k]? = w6.heap[k]? := fun k hk => set7_far w6 bx (.slice E0 S2.stable.length g0) (.slice E1 S2.old.length g1) (.slice E2 S2.pend.length g2) (.slice E3 hl.length g3) (.bool S2.failed) (.int .i64 hu) (.slice E6 hs.length g6) k hk
          have hbw : Below wr.heap.size wr w6 := HBD.out.trans (HB6.out.mono HBD.out.size)
          refine ⟨set7_below (HE.out.bel.trans (hbw.mono HE.out.bel.size)) LB.out.1 (.slice E0 S2.stable.length g0) (.slice E1 S2.old.length g1) (.slice E2 S2.pend.length g2) (.slice E3 hl.length g3) (.bool S2.failed) (.int .i64 hu) (.slice E6 hs.length g6), set7_blk HBX6.out (.slice E0 S2.stable.length g0) (.slice E1 S2.old.length g1) (.slice E2 S2.pend.length g2) (.slice E3 hl.length g3) (.bool S2.failed) (.int .i64 hu) (.slice E6 hs.length g6), (hf rb (fun e => LB.out.2.2.2.1 e.symm)).trans (blk_below HE.out.res hbw), ?_, ?_⟩
          ·have r1 := HR6.out.mono (ok' := fun k => okk k ∧ some k ≠ u9.ownBlock) (fun k hk hlt => hk.elim id (fun hk => by
            have h1 : wr.heap.size ≤ k := Nat.le_trans HBD.out.size hk
            exact ⟨HOKK.out k (by have := HWR.out; omega), fun e => by have := LOW.out k e.symm; omega⟩))
           exact r1.step (fun k hk _ => hf k (HOKO.out k hk.1).1)
          ·rw [HFL2.out]
           exact Kd.R_mono (Kd.R_step (Kd.R_types (Kd.R_below HE.out.row hbw) HBX6.out (by decide)) (fun k hk _ => hf k hk.2)) (fun k hk => hk.1)
         have HE7 := Aside0.mk hE7
         clear hE7 HE
         go_roundg (n2 - (j + 1))
         case measure => omega
         case rel => exact ⟨j + 1, i + 1, _, S2, _, rfl, by go_num, by go_num, by omega, Nat.le_refl _, by omega, HE7, HEF2, HFS2⟩
        ·skip
         obtain ⟨S2, hS2⟩ : ∃ S2, S2 = changeS q (dat.extract 0 140 ++ y.extract 140 y.size) S' := ⟨_, rfl⟩
         have HEF2 := Aside0.mk (show endF p nums (S.pend.take (j + 1)) (0, S) = (i + 1, S2) by rw [hS2]; exact HEND.out 140 HBB.out)
         have HFS2 := Aside0.mk (show Fine kk S2 by rw [hS2]; exact HFS.out.change q HQN.out _ (by rw [ByteArray.size_append, ByteArray.size_extract, ByteArray.size_extract]; omega))
         have HCH2 := Aside0.mk (fun (w : World) (hb : Below wr.heap.size wr w) => HCH.out (dat.extract 0 140 ++ y.extract 140 y.size) w hb)
         rw [← hS2] at HCH2
         have s9 : ¬ 9223372036854775807 < y.size := by omega
         have s6 : ¬ 9223372036854775807 < min 140 dat.size + (y.size - 140) := by omega
         have s7 : 140 ≤ dat.size := by omega
         have s8 : 140 ≤ y.size := by omega
         have s7z : (140 : Int) ≤ (dat.size : Int) := by omega
         have s8z : (140 : Int) ≤ (y.size : Int) := by omega
         clear hS2 HEND HCH hysz hdsz
         go_wp2_with fail
         obtain ⟨w5, hw5⟩ : ∃ w5, w5 = wr.alloc (.cells #[.int .i64 a.f0, .int .i64 (q : Int), .string dat] 99) := ⟨_, rfl⟩
         have hb5 : Below wr.heap.size wr w5 := by rw [hw5]; exact below_alloc (Below.refl _ _) _
         obtain ⟨tb, htb⟩ : ∃ tb, tb = wr.heap.size := ⟨_, rfl⟩
         have t5 : w5.heap[tb]? = some (.cells #[.int .i64 a.f0, .int .i64 (q : Int), .string dat] 99 (0, 0)) := by rw [hw5, htb]; exact blk_new _ _
         rw [← hw5, ← htb]
         have hbx5 := blk_below HE.out.box hb5
         obtain ⟨p0, p1, p2, p3, p4, p5, p6⟩ := cells7 hbx5
         have t1 : w5.cell? ⟨tb, 1, none⟩ = some (.int .i64 (q : Int)) := by rw [blk_cell t5]; rfl
         have t2 : w5.cell? ⟨tb, 2, none⟩ = some (.string dat) := by rw [blk_cell t5]; rfl
         have ty : w5.cell? (adq.add q) = some (.string y) := (hb5.cell hyb).trans y0
         have HBD := Aside0.mk (show Below wr.heap.size wr w5.drew from hb5.drew)
         have LOW := Aside0.mk (show ∀ b, u9.ownBlock = some b → b < wr.heap.size from Kd.R_lt HE.out.row)
         have HWR := Aside0.mk (show W.heap.size + 1 + 1 ≤ wr.heap.size by have := blk_lt HE.out.res; have := RBE.out; omega)
         clear hw5 htb hb5 t5 hbx5 k0 k1 k2 k3 k4 k5 k6 h0 h1 h2 lbx hba hba0 hyb hyb0 y0
         refine start_ (n := 18) (S := fun w' => w'.cell? ⟨bx, 0, none⟩ = some (.slice (some adq) n0 d0) ∧ w'.cell? ⟨bx, 1, none⟩ = some (.slice B1 n1 d1) ∧ w'.cell? ⟨bx, 2, none⟩ = some (.slice (some ad) n2 d2) ∧ w'.cell? ⟨bx, 3, none⟩ = some (.slice B3 n3 d3) ∧ w'.cell? ⟨bx, 4, none⟩ = some (.bool fa) ∧ w'.cell? ⟨bx, 5, none⟩ = some (.int .i64 fu) ∧ w'.cell? ⟨bx, 6, none⟩ = some (.slice B6 n6 d6) ∧ w'.cell? ⟨tb, 1, none⟩ = some (.int .i64 (q : Int)) ∧ w'.cell? ⟨tb, 2, none⟩ = some (.string dat) ∧ w'.cell? (adq.add q) = some (.string y)) (ds := [17]) #[false, false, false, false, false, false, false, false, false, false, false, false, false, false, false, false, false, false] (by kernel_rfl) rfl rfl ⟨p0, p1, p2, p3, p4, p5, p6, t1, t2, ty⟩ (fun hHeld => ?_)
         refine pure_ (i := 1) (N := some 53) (v := ?_) (a' := ?_) #[false, true, false, false, false, false, false, false, false, false, false, false, false, false, false, false, false, false] rfl rfl (by kernel_rfl) (fun _ _ _ h => h) (Or.inl ⟨by rfl, ?_⟩) ?_ ?_
         rotate_left
         ·intro w'
          go_simp
          with_reducible rfl
         rotate_left
         ·simp only [Act.put, List.setIfInBounds_toArray, List.set_cons_zero, List.set_cons_succ, i64_w, i32_w]
          rfl
         refine pure_ (i := 3) (N := some 55) (v := ?_) (a' := ?_) #[false, true, false, true, false, false, false, false, false, false, false, false, false, false, false, false, false, false] rfl rfl (by kernel_rfl) (fun _ _ _ h => h) (Or.inl ⟨by rfl, ?_⟩) ?_ ?_
         rotate_left
         ·intro w'
          go_simp
          with_reducible rfl
         rotate_left
         ·simp only [Act.put, List.setIfInBounds_toArray, List.set_cons_zero, List.set_cons_succ, i64_w, i32_w]
          rfl
         refine pure_ (i := 5) (N := some 57) (v := ?_) (a' := ?_) #[false, true, false, true, false, true, false, false, false, false, false, false, false, false, false, false, false, false] rfl rfl (by kernel_rfl) (fun _ _ _ h => h) (Or.inl ⟨by rfl, ?_⟩) ?_ ?_
         rotate_left
         ·intro w'
          go_simp
          with_reducible rfl
         rotate_left
         ·simp only [Act.put, List.setIfInBounds_toArray, List.set_cons_zero, List.set_cons_succ, i64_w, i32_w]
          rfl
         refine pure_ (i := 7) (N := some 59) (v := ?_) (a' := ?_) #[false, true, false, true, false, true, false, true, false, false, false, false, false, false, false, false, false, false] rfl rfl (by kernel_rfl) (fun _ _ _ h => h) (Or.inl ⟨by rfl, ?_⟩) ?_ ?_
         rotate_left
         ·intro w'
          go_simp
          with_reducible rfl
         rotate_left
         ·simp only [Act.put, List.setIfInBounds_toArray, List.set_cons_zero, List.set_cons_succ, i64_w, i32_w]
          rfl
         refine pure_ (i := 9) (N := some 61) (v := ?_) (a' := ?_) #[false, true, false, true, false, true, false, true, false, true, false, false, false, false, false, false, false, false] rfl rfl (by kernel_rfl) (fun _ _ _ h => h) (Or.inl ⟨by rfl, ?_⟩) ?_ ?_
         rotate_left
         ·intro w'
          go_simp
          with_reducible rfl
         rotate_left
         ·simp only [Act.put, List.setIfInBounds_toArray, List.set_cons_zero, List.set_cons_succ, i64_w, i32_w]
          rfl
         refine pure_ (i := 13) (N := some 65) (v := ?_) (a' := ?_) #[false, true, false, true, false, true, false, true, false, true, false, false, false, true, false, false, false, false] rfl rfl (by kernel_rfl) (fun _ _ _ h => h) (Or.inl ⟨by rfl, ?_⟩) ?_ ?_
         rotate_left
         ·intro w'
          go_simp
          with_reducible rfl
         rotate_left
         ·simp only [Act.put, List.setIfInBounds_toArray, List.set_cons_zero, List.set_cons_succ, i64_w, i32_w]
          rfl
         refine take_ (i := 0) (N := some 52) (v := ?_) (a' := ?_) #[true, true, false, true, false, true, false, true, false, true, false, false, false, true, false, false, false, false] rfl rfl (by kernel_rfl) (fun _ _ _ h => h) (Or.inl ⟨by rfl, ?_⟩) hHeld ?_ ?_
         rotate_left
         ·rintro w' ⟨s0, s1, s2, s3, s4, s5, s6, s7, s8, s9⟩
          go_simp
          with_reducible rfl
         rotate_left
         ·simp only [Act.put, List.setIfInBounds_toArray, List.set_cons_zero, List.set_cons_succ, i64_w, i32_w]
          rfl
         refine take_ (i := 2) (N := some 54) (v := ?_) (a' := ?_) #[true, true, true, true, false, true, false, true, false, true, false, false, false, true, false, false, false, false] rfl rfl (by kernel_rfl) (fun _ _ _ h => h) (Or.inl ⟨by rfl, ?_⟩) hHeld ?_ ?_
         rotate_left
         ·rintro w' ⟨s0, s1, s2, s3, s4, s5, s6, s7, s8, s9⟩
          go_simp
          with_reducible rfl
         rotate_left
         ·simp only [Act.put, List.setIfInBounds_toArray, List.set_cons_zero, List.set_cons_succ, i64_w, i32_w]
          rfl
         refine take_ (i := 4) (N := some 56) (v := ?_) (a' := ?_) #[true, true, true, true, true, true, false, true, false, true, false, false, false, true, false, false, false, false] rfl rfl (by kernel_rfl) (fun _ _ _ h => h) (Or.inl ⟨by rfl, ?_⟩) hHeld ?_ ?_
         rotate_left
         ·rintro w' ⟨s0, s1, s2, s3, s4, s5, s6, s7, s8, s9⟩
          go_simp
          with_reducible rfl
         rotate_left
         ·simp only [Act.put, List.setIfInBounds_toArray, List.set_cons_zero, List.set_cons_succ, i64_w, i32_w]
          rfl
         refine pure_ (i := 6) (N := some 58) (v := ?_) (a' := ?_) #[true, true, true, true, true, true, true, true, false, true, false, false, false, true, false, false, false, false] rfl rfl (by kernel_rfl) (fun _ _ _ h => h) (Or.inl ⟨by rfl, ?_⟩) ?_ ?_
         rotate_left
         ·intro w'
          go_simp
          with_reducible rfl
         rotate_left
         ·simp only [Act.put, List.setIfInBounds_toArray, List.set_cons_zero, List.set_cons_succ, i64_w, i32_w]
          rfl
         refine take_ (i := 8) (N := some 60) (v := ?_) (a' := ?_) #[true, true, true, true, true, true, true, true, true, true, false, false, false, true, false, false, false, false] rfl rfl (by kernel_rfl) (fun _ _ _ h => h) (Or.inl ⟨by rfl, ?_⟩) hHeld ?_ ?_
         rotate_left
         ·rintro w' ⟨s0, s1, s2, s3, s4, s5, s6, s7, s8, s9⟩
          go_simp
          with_reducible rfl
         rotate_left
         ·simp only [Act.put, List.setIfInBounds_toArray, List.set_cons_zero, List.set_cons_succ, i64_w, i32_w]
          rfl
         refine take_ (i := 10) (N := some 62) (v := ?_) (a' := ?_) #[true, true, true, true, true, true, true, true, true, true, true, false, false, true, false, false, false, false] rfl rfl (by kernel_rfl) (fun _ _ _ h => h) (Or.inl ⟨by rfl, ?_⟩) hHeld ?_ ?_
         rotate_left
         ·rintro w' ⟨s0, s1, s2, s3, s4, s5, s6, s7, s8, s9⟩
          go_simp
          with_reducible rfl
         rotate_left
         ·simp only [Act.put, List.setIfInBounds_toArray, List.set_cons_zero, List.set_cons_succ, i64_w, i32_w]
          rfl
         refine pure_ (i := 11) (N := some 63) (v := ?_) (a' := ?_) #[true, true, true, true, true, true, true, true, true, true, true, true, false, true, false, false, false, false] rfl rfl (by kernel_rfl) (fun _ _ _ h => h) (Or.inl ⟨by rfl, ?_⟩) ?_ ?_
         rotate_left
         ·intro w'
          go_simp
          with_reducible rfl
         rotate_left
         ·simp only [Act.put, List.setIfInBounds_toArray, List.set_cons_zero, List.set_cons_succ, i64_w, i32_w]
          rfl
         refine take_ (i := 12) (N := some 64) (v := ?_) (a' := ?_) #[true, true, true, true, true, true, true, true, true, true, true, true, true, true, false, false, false, false] rfl rfl (by kernel_rfl) (fun _ _ _ h => h) (Or.inl ⟨by rfl, ?_⟩) hHeld ?_ ?_
         rotate_left
         ·rintro w' ⟨s0, s1, s2, s3, s4, s5, s6, s7, s8, s9⟩
          go_simp
          with_reducible rfl
         rotate_left
         ·simp only [Act.put, List.setIfInBounds_toArray, List.set_cons_zero, List.set_cons_succ, i64_w, i32_w]
          rfl
         refine pure_ (i := 14) (N := some 66) (v := ?_) (a' := ?_) #[true, true, true, true, true, true, true, true, true, true, true, true, true, true, true, false, false, false] rfl rfl (by kernel_rfl) (fun _ _ _ h => h) (Or.inl ⟨by rfl, ?_⟩) ?_ ?_
         rotate_left
         ·intro w'
          go_simp
          with_reducible rfl
         rotate_left
         ·simp only [Act.put, List.setIfInBounds_toArray, List.set_cons_zero, List.set_cons_succ, i64_w, i32_w]
          rfl
         refine pure_ (i := 15) (N := some 67) (v := ?_) (a' := ?_) #[true, true, true, true, true, true, true, true, true, true, true, true, true, true, true, true, false, false] rfl rfl (by kernel_rfl) (fun _ _ _ h => h) (Or.inl ⟨by rfl, ?_⟩) ?_ ?_
         rotate_left
         ·intro w'
          go_simp
          with_reducible rfl
         rotate_left
         ·simp only [Act.put, List.setIfInBounds_toArray, List.set_cons_zero, List.set_cons_succ, i64_w, i32_w]
          rfl
         refine one_ (i := 16) (N := some 68) #[true, true, true, true, true, true, true, true, true, true, true, true, true, true, true, true, true, false] rfl rfl (by kernel_rfl) (by decide) (fun K hK => ?_)
         refine goes_ Try.func57 (by kernel_rfl) rfl #[.agg #[.slice (some adq) n0 d0, .slice B1 n1 d1, .slice (some ad) n2 d2, .slice B3 n3 d3, .bool fa, .int .i64 fu, .slice B6 n6 d6], .int .i64 (q : Int), .string (dat.extract 0 140 ++ y.extract 140 y.size)] (by rfl) rfl rfl (by simp only [List.map_toArray, List.map_cons, List.map_nil]; rfl) ?_
         with_reducible refine (HCH2.out _ HBD.out).mono ?_
         rintro e w6 ⟨v6, rfl, hR6, hb6⟩
         obtain ⟨E0, E1, E2, E3, E6, g0, g1, g2, g3, g6, hl, hu, hs, hRC6⟩ := hR6.open_
         obtain rfl := hRC6.hv
         have hbx6 := blk_below (blk_below HE.out.box HBD.out) hb6
         obtain ⟨m0, m1, m2, m3, m4, m5, m6⟩ := cells7 hbx6
         obtain ⟨z0, z1, z2, z3, z4, z5, z6⟩ := froz7 hbx6
         have HR6 := Aside0.mk hR6
         have HB6 := Aside0.mk hb6
         have HBX6 := Aside0.mk hbx6
         clear hRC6 hR6 hbx6
         refine ⟨_, rfl, ?_⟩
         refine hK.out _ _ (hold10 hb6 hHeld) (fun hHeld => ?_)
         clear hK K
         refine norm_ (a' := ?_) ?_ ?_
         rotate_left
         ·show Act.put _ (some 68) _ = _
          simp only [Act.put, List.setIfInBounds_toArray, List.set_cons_zero, List.set_cons_succ, i64_w, i32_w]
          rfl
         refine last_ (i := 17) (N := none) #[true, true, true, true, true, true, true, true, true, true, true, true, true, true, true, true, true, true] rfl rfl (by kernel_rfl) (by decide) (fun K hK => ?_)
         refine skip_ (w1 := ?_) (by rfl) rfl ?_ ?_
         rotate_left
         ·go_simp
          rfl
         refine hK.out _ _ ?_
         clear hK K
         refine done_ (by kernel_rfl) ?_
         go_wp2_with fail
         have hE7 : EndAt W (set7 w6 bx (.slice E0 S2.stable.length g0) (.slice E1 S2.old.length g1) (.slice E2 S2.pend.length g2) (.slice E3 hl.length g3) (.bool S2.failed) (.int .i64 hu) (.slice E6 hs.length g6)) okk bx rb #[.slice E0 S2.stable.length g0, .slice E1 S2.old.length g1, .slice E2 S2.pend.length g2, .slice E3 hl.length g3, .bool S2.failed, .int .i64 hu, .slice E6 hs.length g6] u9 ((S.pend.take (j + 1)).filter fun a => !p a) S2 := by
          have hf : ∀ k, k ≠ bx → (set7 w6 bx (.slice E0 S2.stable.length g0) (.slice E1 S2.old.length g1) (.slice E2 S2.pend.length g2) (.slice E3 hl.length g3) (.bool S2.failed) (.int .i64 hu) (.slice E6 hs.length g6)).heap[k]? = w6.heap[k]? := fun k hk => set7_far w6 bx (.slice E0 S2.stable.length g0) (.slice E1 S2.old.length g1) (.slice E2 S2.pend.length g2) (.slice E3 hl.length g3) (.bool S2.failed) (.int .i64 hu) (.slice E6 hs.length g6) k hk
          have hbw : Below wr.heap.size wr w6 := HBD.out.trans (HB6.out.mono HBD.out.size)
          refine ⟨set7_below (HE.out.bel.trans (hbw.mono HE.out.bel.size)) LB.out.1 (.slice E0 S2.stable.length g0) (.slice E1 S2.old.length g1) (.slice E2 S2.pend.length g2) (.slice E3 hl.length g3) (.bool S2.failed) (.int .i64 hu) (.slice E6 hs.length g6), set7_blk HBX6.out (.slice E0 S2.stable.length g0) (.slice E1 S2.old.length g1) (.slice E2 S2.pend.length g2) (.slice E3 hl.length g3) (.bool S2.failed) (.int .i64 hu) (.slice E6 hs.length g6), (hf rb (fun e => LB.out.2.2.2.1 e.symm)).trans (blk_below HE.out.res hbw), ?_, ?_⟩
          ·have r1 := HR6.out.mono (ok' := fun k => okk k ∧ some k ≠ u9.ownBlock) (fun k hk hlt => hk.elim id (fun hk => by
            have h1 : wr.heap.size ≤ k := Nat.le_trans HBD.out.size hk
            exact ⟨HOKK.out k (by have := HWR.out; omega), fun e => by have := LOW.out k e.symm; omega⟩))
           exact r1.step (fun k hk _ => hf k (HOKO.out k hk.1).1)
          ·rw [HFL2.out]
           exact Kd.R_mono (Kd.R_step (Kd.R_types (Kd.R_below HE.out.row hbw) HBX6.out (by decide)) (fun k hk _ => hf k hk.2)) (fun k hk => hk.1)
         have HE7 := Aside0.mk hE7
         clear hE7 HE
         go_roundg (n2 - (j + 1))
         case measure => omega
         case rel => exact ⟨j + 1, i + 1, _, S2, _, rfl, by go_num, by go_num, by omega, Nat.le_refl _, by omega, HE7, HEF2, HFS2⟩
       ·obtain ⟨b, rfl⟩ := Int.eq_ofNat_of_zero_le (show 0 ≤ x by omega)
        have HBB := Aside0.mk (show bytesAt nums i = b by rw [HNB.out]; show bytesAt l i = b; rw [hbv]; omega)
        have hbb : b ≤ 140 := by omega
        clear hbv HNB
        rcases hx with s1 | ⟨s1, s2⟩
        ·skip
         obtain ⟨S2, hS2⟩ : ∃ S2, S2 = changeS q (dat.extract 0 b ++ y.extract b y.size) S' := ⟨_, rfl⟩
         have HEF2 := Aside0.mk (show endF p nums (S.pend.take (j + 1)) (0, S) = (i + 1, S2) by rw [hS2]; exact HEND.out b HBB.out)
         have HFS2 := Aside0.mk (show Fine kk S2 by rw [hS2]; exact HFS.out.change q HQN.out _ (by rw [ByteArray.size_append, ByteArray.size_extract, ByteArray.size_extract]; omega))
         have HCH2 := Aside0.mk (fun (w : World) (hb : Below wr.heap.size wr w) => HCH.out (dat.extract 0 b ++ y.extract b y.size) w hb)
         rw [← hS2] at HCH2
         have s9 : ¬ 9223372036854775807 < y.size := by omega
         have s6 : ¬ 9223372036854775807 < min b dat.size + (y.size - b) := by omega
         have s7 : b ≤ dat.size := by omega
         have s8 : b ≤ y.size := by omega
         have s7z : (b : Int) ≤ (dat.size : Int) := by omega
         have s8z : (b : Int) ≤ (y.size : Int) := by omega
         clear hS2 HEND HCH hysz hdsz
         go_wp2_with fail
         obtain ⟨w5, hw5⟩ : ∃ w5, w5 = wr.alloc (.cells #[.int .i64 a.f0, .int .i64 (q : Int), .string dat] 99) := ⟨_, rfl⟩
         have hb5 : Below wr.heap.size wr w5 := by rw [hw5]; exact below_alloc (Below.refl _ _) _
         obtain ⟨tb, htb⟩ : ∃ tb, tb = wr.heap.size := ⟨_, rfl⟩
         have t5 : w5.heap[tb]? = some (.cells #[.int .i64 a.f0, .int .i64 (q : Int), .string dat] 99 (0, 0)) := by rw [hw5, htb]; exact blk_new _ _
         rw [← hw5, ← htb]
         have hbx5 := blk_below HE.out.box hb5
         obtain ⟨p0, p1, p2, p3, p4, p5, p6⟩ := cells7 hbx5
         have t1 : w5.cell? ⟨tb, 1, none⟩ = some (.int .i64 (q : Int)) := by rw [blk_cell t5]; rfl
         have t2 : w5.cell? ⟨tb, 2, none⟩ = some (.string dat) := by rw [blk_cell t5]; rfl
         have ty : w5.cell? (adq.add q) = some (.string y) := (hb5.cell hyb).trans y0
         have HBD := Aside0.mk (show Below wr.heap.size wr w5.drew from hb5.drew)
         have LOW := Aside0.mk (show ∀ b, u9.ownBlock = some b → b < wr.heap.size from Kd.R_lt HE.out.row)
         have HWR := Aside0.mk (show W.heap.size + 1 + 1 ≤ wr.heap.size by have := blk_lt HE.out.res; have := RBE.out; omega)
         clear hw5 htb hb5 t5 hbx5 k0 k1 k2 k3 k4 k5 k6 h0 h1 h2 lbx hba hba0 hyb hyb0 y0
         refine start_ (n := 18) (S := fun w' => w'.cell? ⟨bx, 0, none⟩ = some (.slice (some adq) n0 d0) ∧ w'.cell? ⟨bx, 1, none⟩ = some (.slice B1 n1 d1) ∧ w'.cell? ⟨bx, 2, none⟩ = some (.slice (some ad) n2 d2) ∧ w'.cell? ⟨bx, 3, none⟩ = some (.slice B3 n3 d3) ∧ w'.cell? ⟨bx, 4, none⟩ = some (.bool fa) ∧ w'.cell? ⟨bx, 5, none⟩ = some (.int .i64 fu) ∧ w'.cell? ⟨bx, 6, none⟩ = some (.slice B6 n6 d6) ∧ w'.cell? ⟨tb, 1, none⟩ = some (.int .i64 (q : Int)) ∧ w'.cell? ⟨tb, 2, none⟩ = some (.string dat) ∧ w'.cell? (adq.add q) = some (.string y)) (ds := [17]) #[false, false, false, false, false, false, false, false, false, false, false, false, false, false, false, false, false, false] (by kernel_rfl) rfl rfl ⟨p0, p1, p2, p3, p4, p5, p6, t1, t2, ty⟩ (fun hHeld => ?_)
         refine pure_ (i := 1) (N := some 53) (v := ?_) (a' := ?_) #[false, true, false, false, false, false, false, false, false, false, false, false, false, false, false, false, false, false] rfl rfl (by kernel_rfl) (fun _ _ _ h => h) (Or.inl ⟨by rfl, ?_⟩) ?_ ?_
         rotate_left
         ·intro w'
          go_simp
          with_reducible rfl
         rotate_left
         ·simp only [Act.put, List.setIfInBounds_toArray, List.set_cons_zero, List.set_cons_succ, i64_w, i32_w]
          rfl
         refine pure_ (i := 3) (N := some 55) (v := ?_) (a' := ?_) #[false, true, false, true, false, false, false, false, false, false, false, false, false, false, false, false, false, false] rfl rfl (by kernel_rfl) (fun _ _ _ h => h) (Or.inl ⟨by rfl, ?_⟩) ?_ ?_
         rotate_left
         ·intro w'
          go_simp
          with_reducible rfl
         rotate_left
         ·simp only [Act.put, List.setIfInBounds_toArray, List.set_cons_zero, List.set_cons_succ, i64_w, i32_w]
          rfl
         refine pure_ (i := 5) (N := some 57) (v := ?_) (a' := ?_) #[false, true, false, true, false, true, false, false, false, false, false, false, false, false, false, false, false, false] rfl rfl (by kernel_rfl) (fun _ _ _ h => h) (Or.inl ⟨by rfl, ?_⟩) ?_ ?_
         rotate_left
         ·intro w'
          go_simp
          with_reducible rfl
         rotate_left
         ·simp only [Act.put, List.setIfInBounds_toArray, List.set_cons_zero, List.set_cons_succ, i64_w, i32_w]
          rfl
         refine pure_ (i := 7) (N := some 59) (v := ?_) (a' := ?_) #[false, true, false, true, false, true, false, true, false, false, false, false, false, false, false, false, false, false] rfl rfl (by kernel_rfl) (fun _ _ _ h => h) (Or.inl ⟨by rfl, ?_⟩) ?_ ?_
         rotate_left
         ·intro w'
          go_simp
          with_reducible rfl
         rotate_left
         ·simp only [Act.put, List.setIfInBounds_toArray, List.set_cons_zero, List.set_cons_succ, i64_w, i32_w]
          rfl
         refine pure_ (i := 9) (N := some 61) (v := ?_) (a' := ?_) #[false, true, false, true, false, true, false, true, false, true, false, false, false, false, false, false, false, false] rfl rfl (by kernel_rfl) (fun _ _ _ h => h) (Or.inl ⟨by rfl, ?_⟩) ?_ ?_
         rotate_left
         ·intro w'
          go_simp
          with_reducible rfl
         rotate_left
         ·simp only [Act.put, List.setIfInBounds_toArray, List.set_cons_zero, List.set_cons_succ, i64_w, i32_w]
          rfl
         refine pure_ (i := 13) (N := some 65) (v := ?_) (a' := ?_) #[false, true, false, true, false, true, false, true, false, true, false, false, false, true, false, false, false, false] rfl rfl (by kernel_rfl) (fun _ _ _ h => h) (Or.inl ⟨by rfl, ?_⟩) ?_ ?_
         rotate_left
         ·intro w'
          go_simp
          with_reducible rfl
         rotate_left
         ·simp only [Act.put, List.setIfInBounds_toArray, List.set_cons_zero, List.set_cons_succ, i64_w, i32_w]
          rfl
         refine take_ (i := 0) (N := some 52) (v := ?_) (a' := ?_) #[true, true, false, true, false, true, false, true, false, true, false, false, false, true, false, false, false, false] rfl rfl (by kernel_rfl) (fun _ _ _ h => h) (Or.inl ⟨by rfl, ?_⟩) hHeld ?_ ?_
         rotate_left
         ·rintro w' ⟨s0, s1, s2, s3, s4, s5, s6, s7, s8, s9⟩
          go_simp
          with_reducible rfl
         rotate_left
         ·simp only [Act.put, List.setIfInBounds_toArray, List.set_cons_zero, List.set_cons_succ, i64_w, i32_w]
          rfl
         refine take_ (i := 2) (N := some 54) (v := ?_) (a' := ?_) #[true, true, true, true, false, true, false, true, false, true, false, false, false, true, false, false, false, false] rfl rfl (by kernel_rfl) (fun _ _ _ h => h) (Or.inl ⟨by rfl, ?_⟩) hHeld ?_ ?_
         rotate_left
         ·rintro w' ⟨s0, s1, s2, s3, s4, s5, s6, s7, s8, s9⟩
          go_simp
          with_reducible rfl
         rotate_left
         ·simp only [Act.put, List.setIfInBounds_toArray, List.set_cons_zero, List.set_cons_succ, i64_w, i32_w]
          rfl
         refine take_ (i := 4) (N := some 56) (v := ?_) (a' := ?_) #[true, true, true, true, true, true, false, true, false, true, false, false, false, true, false, false, false, false] rfl rfl (by kernel_rfl) (fun _ _ _ h => h) (Or.inl ⟨by rfl, ?_⟩) hHeld ?_ ?_
         rotate_left
         ·rintro w' ⟨s0, s1, s2, s3, s4, s5, s6, s7, s8, s9⟩
          go_simp
          with_reducible rfl
         rotate_left
         ·simp only [Act.put, List.setIfInBounds_toArray, List.set_cons_zero, List.set_cons_succ, i64_w, i32_w]
          rfl
         refine pure_ (i := 6) (N := some 58) (v := ?_) (a' := ?_) #[true, true, true, true, true, true, true, true, false, true, false, false, false, true, false, false, false, false] rfl rfl (by kernel_rfl) (fun _ _ _ h => h) (Or.inl ⟨by rfl, ?_⟩) ?_ ?_
         rotate_left
         ·intro w'
          go_simp
          with_reducible rfl
         rotate_left
         ·simp only [Act.put, List.setIfInBounds_toArray, List.set_cons_zero, List.set_cons_succ, i64_w, i32_w]
          rfl
         refine take_ (i := 8) (N := some 60) (v := ?_) (a' := ?_) #[true, true, true, true, true, true, true, true, true, true, false, false, false, true, false, false, false, false] rfl rfl (by kernel_rfl) (fun _ _ _ h => h) (Or.inl ⟨by rfl, ?_⟩) hHeld ?_ ?_
         rotate_left
         ·rintro w' ⟨s0, s1, s2, s3, s4, s5, s6, s7, s8, s9⟩
          go_simp
          with_reducible rfl
         rotate_left
         ·simp only [Act.put, List.setIfInBounds_toArray, List.set_cons_zero, List.set_cons_succ, i64_w, i32_w]
          rfl
         refine take_ (i := 10) (N := some 62) (v := ?_) (a' := ?_) #[true, true, true, true, true, true, true, true, true, true, true, false, false, true, false, false, false, false] rfl rfl (by kernel_rfl) (fun _ _ _ h => h) (Or.inl ⟨by rfl, ?_⟩) hHeld ?_ ?_
         rotate_left
         ·rintro w' ⟨s0, s1, s2, s3, s4, s5, s6, s7, s8, s9⟩
          go_simp
          with_reducible rfl
         rotate_left
         ·simp only [Act.put, List.setIfInBounds_toArray, List.set_cons_zero, List.set_cons_succ, i64_w, i32_w]
          rfl
         refine pure_ (i := 11) (N := some 63) (v := ?_) (a' := ?_) #[true, true, true, true, true, true, true, true, true, true, true, true, false, true, false, false, false, false] rfl rfl (by kernel_rfl) (fun _ _ _ h => h) (Or.inl ⟨by rfl, ?_⟩) ?_ ?_
         rotate_left
         ·intro w'
          go_simp
          with_reducible rfl
         rotate_left
         ·simp only [Act.put, List.setIfInBounds_toArray, List.set_cons_zero, List.set_cons_succ, i64_w, i32_w]
          rfl
         refine take_ (i := 12) (N := some 64) (v := ?_) (a' := ?_) #[true, true, true, true, true, true, true, true, true, true, true, true, true, true, false, false, false, false] rfl rfl (by kernel_rfl) (fun _ _ _ h => h) (Or.inl ⟨by rfl, ?_⟩) hHeld ?_ ?_
         rotate_left
         ·rintro w' ⟨s0, s1, s2, s3, s4, s5, s6, s7, s8, s9⟩
          go_simp
          with_reducible rfl
         rotate_left
         ·simp only [Act.put, List.setIfInBounds_toArray, List.set_cons_zero, List.set_cons_succ, i64_w, i32_w]
          rfl
         refine pure_ (i := 14) (N := some 66) (v := ?_) (a' := ?_) #[true, true, true, true, true, true, true, true, true, true, true, true, true, true, true, false, false, false] rfl rfl (by kernel_rfl) (fun _ _ _ h => h) (Or.inl ⟨by rfl, ?_⟩) ?_ ?_
         rotate_left
         ·intro w'
          go_simp
          with_reducible rfl
         rotate_left
         ·simp only [Act.put, List.setIfInBounds_toArray, List.set_cons_zero, List.set_cons_succ, i64_w, i32_w]
          rfl
         refine pure_ (i := 15) (N := some 67) (v := ?_) (a' := ?_) #[true, true, true, true, true, true, true, true, true, true, true, true, true, true, true, true, false, false] rfl rfl (by kernel_rfl) (fun _ _ _ h => h) (Or.inl ⟨by rfl, ?_⟩) ?_ ?_
         rotate_left
         ·intro w'
          go_simp
          with_reducible rfl
         rotate_left
         ·simp only [Act.put, List.setIfInBounds_toArray, List.set_cons_zero, List.set_cons_succ, i64_w, i32_w]
          rfl
         refine one_ (i := 16) (N := some 68) #[true, true, true, true, true, true, true, true, true, true, true, true, true, true, true, true, true, false] rfl rfl (by kernel_rfl) (by decide) (fun K hK => ?_)
         refine goes_ Try.func57 (by kernel_rfl) rfl #[.agg #[.slice (some adq) n0 d0, .slice B1 n1 d1, .slice (some ad) n2 d2, .slice B3 n3 d3, .bool fa, .int .i64 fu, .slice B6 n6 d6], .int .i64 (q : Int), .string (dat.extract 0 b ++ y.extract b y.size)] (by rfl) rfl rfl (by simp only [List.map_toArray, List.map_cons, List.map_nil]; rfl) ?_
         with_reducible refine (HCH2.out _ HBD.out).mono ?_
         rintro e w6 ⟨v6, rfl, hR6, hb6⟩
         obtain ⟨E0, E1, E2, E3, E6, g0, g1, g2, g3, g6, hl, hu, hs, hRC6⟩ := hR6.open_
         obtain rfl := hRC6.hv
         have hbx6 := blk_below (blk_below HE.out.box HBD.out) hb6
         obtain ⟨m0, m1, m2, m3, m4, m5, m6⟩ := cells7 hbx6
         obtain ⟨z0, z1, z2, z3, z4, z5, z6⟩ := froz7 hbx6
         have HR6 := Aside0.mk hR6
         have HB6 := Aside0.mk hb6
         have HBX6 := Aside0.mk hbx6
         clear hRC6 hR6 hbx6
         refine ⟨_, rfl, ?_⟩
         refine hK.out _ _ (hold10 hb6 hHeld) (fun hHeld => ?_)
         clear hK K
         refine norm_ (a' := ?_) ?_ ?_
         rotate_left
         ·show Act.put _ (some 68) _ = _
          simp only [Act.put, List.setIfInBounds_toArray, List.set_cons_zero, List.set_cons_succ, i64_w, i32_w]
          rfl
         refine last_ (i := 17) (N := none) #[true, true, true, true, true, true, true, true, true, true, true, true, true, true, true, true, true, true] rfl rfl (by kernel_rfl) (by decide) (fun K hK => ?_)
         refine skip_ (w1 := ?_) (by rfl) rfl ?_ ?_
         rotate_left
         ·go_simp
          rfl
         refine hK.out _ _ ?_
         clear hK K
         refine done_ (by kernel_rfl) ?_
         go_wp2_with fail
         have hE7 : EndAt W (set7 w6 bx (.slice E0 S2.stable.length g0) (.slice E1 S2.old.length g1) (.slice E2 S2.pend.length g2) (.slice E3 hl.length g3) (.bool S2.failed) (.int .i64 hu) (.slice E6 hs.length g6)) okk bx rb #[.slice E0 S2.stable.length g0, .slice E1 S2.old.length g1, .slice E2 S2.pend.length g2, .slice E3 hl.length g3, .bool S2.failed, .int .i64 hu, .slice E6 hs.length g6] u9 ((S.pend.take (j + 1)).filter fun a => !p a) S2 := by
          have hf : ∀ k, k ≠ bx → (set7 w6 bx (.slice E0 S2.stable.length g0) (.slice E1 S2.old.length g1) (.slice E2 S2.pend.length g2) (.slice E3 hl.length g3) (.bool S2.failed) (.int .i64 hu) (.slice E6 hs.length g6)).heap[k]? = w6.heap[k]? := fun k hk => set7_far w6 bx (.slice E0 S2.stable.length g0) (.slice E1 S2.old.length g1) (.slice E2 S2.pend.length g2) (.slice E3 hl.length g3) (.bool S2.failed) (.int .i64 hu) (.slice E6 hs.length g6) k hk
          have hbw : Below wr.heap.size wr w6 := HBD.out.trans (HB6.out.mono HBD.out.size)
          refine ⟨set7_below (HE.out.bel.trans (hbw.mono HE.out.bel.size)) LB.out.1 (.slice E0 S2.stable.length g0) (.slice E1 S2.old.length g1) (.slice E2 S2.pend.length g2) (.slice E3 hl.length g3) (.bool S2.failed) (.int .i64 hu) (.slice E6 hs.length g6), set7_blk HBX6.out (.slice E0 S2.stable.length g0) (.slice E1 S2.old.length g1) (.slice E2 S2.pend.length g2) (.slice E3 hl.length g3) (.bool S2.failed) (.int .i64 hu) (.slice E6 hs.length g6), (hf rb (fun e => LB.out.2.2.2.1 e.symm)).trans (blk_below HE.out.res hbw), ?_, ?_⟩
          ·have r1 := HR6.out.mono (ok' := fun k => okk k ∧ some k ≠ u9.ownBlock) (fun k hk hlt => hk.elim id (fun hk => by
            have h1 : wr.heap.size ≤ k := Nat.le_trans HBD.out.size hk
            exact ⟨HOKK.out k (by have := HWR.out; omega), fun e => by have := LOW.out k e.symm; omega⟩))
           exact r1.step (fun k hk _ => hf k (HOKO.out k hk.1).1)
          ·rw [HFL2.out]
           exact Kd.R_mono (Kd.R_step (Kd.R_types (Kd.R_below HE.out.row hbw) HBX6.out (by decide)) (fun k hk _ => hf k hk.2)) (fun k hk => hk.1)
         have HE7 := Aside0.mk hE7
         clear hE7 HE
         go_roundg (n2 - (j + 1))
         case measure => omega
         case rel => exact ⟨j + 1, i + 1, _, S2, _, rfl, by go_num, by go_num, by omega, Nat.le_refl _, by omega, HE7, HEF2, HFS2⟩
        ·skip
         obtain ⟨S2, hS2⟩ : ∃ S2, S2 = changeS q (dat.extract 0 b ++ y.extract b y.size) S' := ⟨_, rfl⟩
         have HEF2 := Aside0.mk (show endF p nums (S.pend.take (j + 1)) (0, S) = (i + 1, S2) by rw [hS2]; exact HEND.out b HBB.out)
         have HFS2 := Aside0.mk (show Fine kk S2 by rw [hS2]; exact HFS.out.change q HQN.out _ (by rw [ByteArray.size_append, ByteArray.size_extract, ByteArray.size_extract]; omega))
         have HCH2 := Aside0.mk (fun (w : World) (hb : Below wr.heap.size wr w) => HCH.out (dat.extract 0 b ++ y.extract b y.size) w hb)
         rw [← hS2] at HCH2
         have s9 : ¬ 9223372036854775807 < y.size := by omega
         have s6 : ¬ 9223372036854775807 < min b dat.size + (y.size - b) := by omega
         have s7 : b ≤ dat.size := by omega
         have s8 : b ≤ y.size := by omega
         have s7z : (b : Int) ≤ (dat.size : Int) := by omega
         have s8z : (b : Int) ≤ (y.size : Int) := by omega
         clear hS2 HEND HCH hysz hdsz
         go_wp2_with fail
         obtain ⟨w5, hw5⟩ : ∃ w5, w5 = wr.alloc (.cells #[.int .i64 a.f0, .int .i64 (q : Int), .string dat] 99) := ⟨_, rfl⟩
         have hb5 : Below wr.heap.size wr w5 := by rw [hw5]; exact below_alloc (Below.refl _ _) _
         obtain ⟨tb, htb⟩ : ∃ tb, tb = wr.heap.size := ⟨_, rfl⟩
         have t5 : w5.heap[tb]? = some (.cells #[.int .i64 a.f0, .int .i64 (q : Int), .string dat] 99 (0, 0)) := by rw [hw5, htb]; exact blk_new _ _
         rw [← hw5, ← htb]
         have hbx5 := blk_below HE.out.box hb5
         obtain ⟨p0, p1, p2, p3, p4, p5, p6⟩ := cells7 hbx5
         have t1 : w5.cell? ⟨tb, 1, none⟩ = some (.int .i64 (q : Int)) := by rw [blk_cell t5]; rfl
         have t2 : w5.cell? ⟨tb, 2, none⟩ = some (.string dat) := by rw [blk_cell t5]; rfl
         have ty : w5.cell? (adq.add q) = some (.string y) := (hb5.cell hyb).trans y0
         have HBD := Aside0.mk (show Below wr.heap.size wr w5.drew from hb5.drew)
         have LOW := Aside0.mk (show ∀ b, u9.ownBlock = some b → b < wr.heap.size from Kd.R_lt HE.out.row)
         have HWR := Aside0.mk (show W.heap.size + 1 + 1 ≤ wr.heap.size by have := blk_lt HE.out.res; have := RBE.out; omega)
         clear hw5 htb hb5 t5 hbx5 k0 k1 k2 k3 k4 k5 k6 h0 h1 h2 lbx hba hba0 hyb hyb0 y0
         refine start_ (n := 18) (S := fun w' => w'.cell? ⟨bx, 0, none⟩ = some (.slice (some adq) n0 d0) ∧ w'.cell? ⟨bx, 1, none⟩ = some (.slice B1 n1 d1) ∧ w'.cell? ⟨bx, 2, none⟩ = some (.slice (some ad) n2 d2) ∧ w'.cell? ⟨bx, 3, none⟩ = some (.slice B3 n3 d3) ∧ w'.cell? ⟨bx, 4, none⟩ = some (.bool fa) ∧ w'.cell? ⟨bx, 5, none⟩ = some (.int .i64 fu) ∧ w'.cell? ⟨bx, 6, none⟩ = some (.slice B6 n6 d6) ∧ w'.cell? ⟨tb, 1, none⟩ = some (.int .i64 (q : Int)) ∧ w'.cell? ⟨tb, 2, none⟩ = some (.string dat) ∧ w'.cell? (adq.add q) = some (.string y)) (ds := [17]) #[false, false, false, false, false, false, false, false, false, false, false, false, false, false, false, false, false, false] (by kernel_rfl) rfl rfl ⟨p0, p1, p2, p3, p4, p5, p6, t1, t2, ty⟩ (fun hHeld => ?_)
         refine pure_ (i := 1) (N := some 53) (v := ?_) (a' := ?_) #[false, true, false, false, false, false, false, false, false, false, false, false, false, false, false, false, false, false] rfl rfl (by kernel_rfl) (fun _ _ _ h => h) (Or.inl ⟨by rfl, ?_⟩) ?_ ?_
         rotate_left
         ·intro w'
          go_simp
          with_reducible rfl
         rotate_left
         ·simp only [Act.put, List.setIfInBounds_toArray, List.set_cons_zero, List.set_cons_succ, i64_w, i32_w]
          rfl
         refine pure_ (i := 3) (N := some 55) (v := ?_) (a' := ?_) #[false, true, false, true, false, false, false, false, false, false, false, false, false, false, false, false, false, false] rfl rfl (by kernel_rfl) (fun _ _ _ h => h) (Or.inl ⟨by rfl, ?_⟩) ?_ ?_
         rotate_left
         ·intro w'
          go_simp
          with_reducible rfl
         rotate_left
         ·simp only [Act.put, List.setIfInBounds_toArray, List.set_cons_zero, List.set_cons_succ, i64_w, i32_w]
          rfl
         refine pure_ (i := 5) (N := some 57) (v := ?_) (a' := ?_) #[false, true, false, true, false, true, false, false, false, false, false, false, false, false, false, false, false, false] rfl rfl (by kernel_rfl) (fun _ _ _ h => h) (Or.inl ⟨by rfl, ?_⟩) ?_ ?_
         rotate_left
         ·intro w'
          go_simp
          with_reducible rfl
         rotate_left
         ·simp only [Act.put, List.setIfInBounds_toArray, List.set_cons_zero, List.set_cons_succ, i64_w, i32_w]
          rfl
         refine pure_ (i := 7) (N := some 59) (v := ?_) (a' := ?_) #[false, true, false, true, false, true, false, true, false, false, false, false, false, false, false, false, false, false] rfl rfl (by kernel_rfl) (fun _ _ _ h => h) (Or.inl ⟨by rfl, ?_⟩) ?_ ?_
         rotate_left
         ·intro w'
          go_simp
          with_reducible rfl
         rotate_left
         ·simp only [Act.put, List.setIfInBounds_toArray, List.set_cons_zero, List.set_cons_succ, i64_w, i32_w]
          rfl
         refine pure_ (i := 9) (N := some 61) (v := ?_) (a' := ?_) #[false, true, false, true, false, true, false, true, false, true, false, false, false, false, false, false, false, false] rfl rfl (by kernel_rfl) (fun _ _ _ h => h) (Or.inl ⟨by rfl, ?_⟩) ?_ ?_
         rotate_left
         ·intro w'
          go_simp
          with_reducible rfl
         rotate_left
         ·simp only [Act.put, List.setIfInBounds_toArray, List.set_cons_zero, List.set_cons_succ, i64_w, i32_w]
          rfl
         refine pure_ (i := 13) (N := some 65) (v := ?_) (a' := ?_) #[false, true, false, true, false, true, false, true, false, true, false, false, false, true, false, false, false, false] rfl rfl (by kernel_rfl) (fun _ _ _ h => h) (Or.inl ⟨by rfl, ?_⟩) ?_ ?_
         rotate_left
         ·intro w'
          go_simp
          with_reducible rfl
         rotate_left
         ·simp only [Act.put, List.setIfInBounds_toArray, List.set_cons_zero, List.set_cons_succ, i64_w, i32_w]
          rfl
         refine take_ (i := 0) (N := some 52) (v := ?_) (a' := ?_) #[true, true, false, true, false, true, false, true, false, true, false, false, false, true, false, false, false, false] rfl rfl (by kernel_rfl) (fun _ _ _ h => h) (Or.inl ⟨by rfl, ?_⟩) hHeld ?_ ?_
         rotate_left
         ·rintro w' ⟨s0, s1, s2, s3, s4, s5, s6, s7, s8, s9⟩
          go_simp
          with_reducible rfl
         rotate_left
         ·simp only [Act.put, List.setIfInBounds_toArray, List.set_cons_zero, List.set_cons_succ, i64_w, i32_w]
          rfl
         refine take_ (i := 2) (N := some 54) (v := ?_) (a' := ?_) #[true, true, true, true, false, true, false, true, false, true, false, false, false, true, false, false, false, false] rfl rfl (by kernel_rfl) (fun _ _ _ h => h) (Or.inl ⟨by rfl, ?_⟩) hHeld ?_ ?_
         rotate_left
         ·rintro w' ⟨s0, s1, s2, s3, s4, s5, s6, s7, s8, s9⟩
          go_simp
          with_reducible rfl
         rotate_left
         ·simp only [Act.put, List.setIfInBounds_toArray, List.set_cons_zero, List.set_cons_succ, i64_w, i32_w]
          rfl
         refine take_ (i := 4) (N := some 56) (v := ?_) (a' := ?_) #[true, true, true, true, true, true, false, true, false, true, false, false, false, true, false, false, false, false] rfl rfl (by kernel_rfl) (fun _ _ _ h => h) (Or.inl ⟨by rfl, ?_⟩) hHeld ?_ ?_
         rotate_left
         ·rintro w' ⟨s0, s1, s2, s3, s4, s5, s6, s7, s8, s9⟩
          go_simp
          with_reducible rfl
         rotate_left
         ·simp only [Act.put, List.setIfInBounds_toArray, List.set_cons_zero, List.set_cons_succ, i64_w, i32_w]
          rfl
         refine pure_ (i := 6) (N := some 58) (v := ?_) (a' := ?_) #[true, true, true, true, true, true, true, true, false, true, false, false, false, true, false, false, false, false] rfl rfl (by kernel_rfl) (fun _ _ _ h => h) (Or.inl ⟨by rfl, ?_⟩) ?_ ?_
         rotate_left
         ·intro w'
          go_simp
          with_reducible rfl
         rotate_left
         ·simp only [Act.put, List.setIfInBounds_toArray, List.set_cons_zero, List.set_cons_succ, i64_w, i32_w]
          rfl
         refine take_ (i := 8) (N := some 60) (v := ?_) (a' := ?_) #[true, true, true, true, true, true, true, true, true, true, false, false, false, true, false, false, false, false] rfl rfl (by kernel_rfl) (fun _ _ _ h => h) (Or.inl ⟨by rfl, ?_⟩) hHeld ?_ ?_
         rotate_left
         ·rintro w' ⟨s0, s1, s2, s3, s4, s5, s6, s7, s8, s9⟩
          go_simp
          with_reducible rfl
         rotate_left
         ·simp only [Act.put, List.setIfInBounds_toArray, List.set_cons_zero, List.set_cons_succ, i64_w, i32_w]
          rfl
         refine take_ (i := 10) (N := some 62) (v := ?_) (a' := ?_) #[true, true, true, true, true, true, true, true, true, true, true, false, false, true, false, false, false, false] rfl rfl (by kernel_rfl) (fun _ _ _ h => h) (Or.inl ⟨by rfl, ?_⟩) hHeld ?_ ?_
         rotate_left
         ·rintro w' ⟨s0, s1, s2, s3, s4, s5, s6, s7, s8, s9⟩
          go_simp
          with_reducible rfl
         rotate_left
         ·simp only [Act.put, List.setIfInBounds_toArray, List.set_cons_zero, List.set_cons_succ, i64_w, i32_w]
          rfl
         refine pure_ (i := 11) (N := some 63) (v := ?_) (a' := ?_) #[true, true, true, true, true, true, true, true, true, true, true, true, false, true, false, false, false, false] rfl rfl (by kernel_rfl) (fun _ _ _ h => h) (Or.inl ⟨by rfl, ?_⟩) ?_ ?_
         rotate_left
         ·intro w'
          go_simp
          with_reducible rfl
         rotate_left
         ·simp only [Act.put, List.setIfInBounds_toArray, List.set_cons_zero, List.set_cons_succ, i64_w, i32_w]
          rfl
         refine take_ (i := 12) (N := some 64) (v := ?_) (a' := ?_) #[true, true, true, true, true, true, true, true, true, true, true, true, true, true, false, false, false, false] rfl rfl (by kernel_rfl) (fun _ _ _ h => h) (Or.inl ⟨by rfl, ?_⟩) hHeld ?_ ?_
         rotate_left
         ·rintro w' ⟨s0, s1, s2, s3, s4, s5, s6, s7, s8, s9⟩
          go_simp
          with_reducible rfl
         rotate_left
         ·simp only [Act.put, List.setIfInBounds_toArray, List.set_cons_zero, List.set_cons_succ, i64_w, i32_w]
          rfl
         refine pure_ (i := 14) (N := some 66) (v := ?_) (a' := ?_) #[true, true, true, true, true, true, true, true, true, true, true, true, true, true, true, false, false, false] rfl rfl (by kernel_rfl) (fun _ _ _ h => h) (Or.inl ⟨by rfl, ?_⟩) ?_ ?_
         rotate_left
         ·intro w'
          go_simp
          with_reducible rfl
         rotate_left
         ·simp only [Act.put, List.setIfInBounds_toArray, List.set_cons_zero, List.set_cons_succ, i64_w, i32_w]
          rfl
         refine pure_ (i := 15) (N := some 67) (v := ?_) (a' := ?_) #[true, true, true, true, true, true, true, true, true, true, true, true, true, true, true, true, false, false] rfl rfl (by kernel_rfl) (fun _ _ _ h => h) (Or.inl ⟨by rfl, ?_⟩) ?_ ?_
         rotate_left
         ·intro w'
          go_simp
          with_reducible rfl
         rotate_left
         ·simp only [Act.put, List.setIfInBounds_toArray, List.set_cons_zero, List.set_cons_succ, i64_w, i32_w]
          rfl
         refine one_ (i := 16) (N := some 68) #[true, true, true, true, true, true, true, true, true, true, true, true, true, true, true, true, true, false] rfl rfl (by kernel_rfl) (by decide) (fun K hK => ?_)
         refine goes_ Try.func57 (by kernel_rfl) rfl #[.agg #[.slice (some adq) n0 d0, .slice B1 n1 d1, .slice (some ad) n2 d2, .slice B3 n3 d3, .bool fa, .int .i64 fu, .slice B6 n6 d6], .int .i64 (q : Int), .string (dat.extract 0 b ++ y.extract b y.size)] (by rfl) rfl rfl (by simp only [List.map_toArray, List.map_cons, List.map_nil]; rfl) ?_
         with_reducible refine (HCH2.out _ HBD.out).mono ?_
         rintro e w6 ⟨v6, rfl, hR6, hb6⟩
         obtain ⟨E0, E1, E2, E3, E6, g0, g1, g2, g3, g6, hl, hu, hs, hRC6⟩ := hR6.open_
         obtain rfl := hRC6.hv
         have hbx6 := blk_below (blk_below HE.out.box HBD.out) hb6
         obtain ⟨m0, m1, m2, m3, m4, m5, m6⟩ := cells7 hbx6
         obtain ⟨z0, z1, z2, z3, z4, z5, z6⟩ := froz7 hbx6
         have HR6 := Aside0.mk hR6
         have HB6 := Aside0.mk hb6
         have HBX6 := Aside0.mk hbx6
         clear hRC6 hR6 hbx6
         refine ⟨_, rfl, ?_⟩
         refine hK.out _ _ (hold10 hb6 hHeld) (fun hHeld => ?_)
         clear hK K
         refine norm_ (a' := ?_) ?_ ?_
         rotate_left
         ·show Act.put _ (some 68) _ = _
          simp only [Act.put, List.setIfInBounds_toArray, List.set_cons_zero, List.set_cons_succ, i64_w, i32_w]
          rfl
         refine last_ (i := 17) (N := none) #[true, true, true, true, true, true, true, true, true, true, true, true, true, true, true, true, true, true] rfl rfl (by kernel_rfl) (by decide) (fun K hK => ?_)
         refine skip_ (w1 := ?_) (by rfl) rfl ?_ ?_
         rotate_left
         ·go_simp
          rfl
         refine hK.out _ _ ?_
         clear hK K
         refine done_ (by kernel_rfl) ?_
         go_wp2_with fail
         have hE7 : EndAt W (set7 w6 bx (.slice E0 S2.stable.length g0) (.slice E1 S2.old.length g1) (.slice E2 S2.pend.length g2) (.slice E3 hl.length g3) (.bool S2.failed) (.int .i64 hu) (.slice E6 hs.length g6)) okk bx rb #[.slice E0 S2.stable.length g0, .slice E1 S2.old.length g1, .slice E2 S2.pend.length g2, .slice E3 hl.length g3, .bool S2.failed, .int .i64 hu, .slice E6 hs.length g6] u9 ((S.pend.take (j + 1)).filter fun a => !p a) S2 := by
          have hf : ∀ k, k ≠ bx → (set7 w6 bx (.slice E0 S2.stable.length g0) (.slice E1 S2.old.length g1) (.slice E2 S2.pend.length g2) (.slice E3 hl.length g3) (.bool S2.failed) (.int .i64 hu) (.slice E6 hs.length g6)).heap[k]? = w6.heap[k]? := fun k hk => set7_far w6 bx (.slice E0 S2.stable.length g0) (.slice E1 S2.old.length g1) (.slice E2 S2.pend.length g2) (.slice E3 hl.length g3) (.bool S2.failed) (.int .i64 hu) (.slice E6 hs.length g6) k hk
          have hbw : Below wr.heap.size wr w6 := HBD.out.trans (HB6.out.mono HBD.out.size)
          refine ⟨set7_below (HE.out.bel.trans (hbw.mono HE.out.bel.size)) LB.out.1 (.slice E0 S2.stable.length g0) (.slice E1 S2.old.length g1) (.slice E2 S2.pend.length g2) (.slice E3 hl.length g3) (.bool S2.failed) (.int .i64 hu) (.slice E6 hs.length g6), set7_blk HBX6.out (.slice E0 S2.stable.length g0) (.slice E1 S2.old.length g1) (.slice E2 S2.pend.length g2) (.slice E3 hl.length g3) (.bool S2.failed) (.int .i64 hu) (.slice E6 hs.length g6), (hf rb (fun e => LB.out.2.2.2.1 e.symm)).trans (blk_below HE.out.res hbw), ?_, ?_⟩
          ·have r1 := HR6.out.mono (ok' := fun k => okk k ∧ some k ≠ u9.ownBlock) (fun k hk hlt => hk.elim id (fun hk => by
            have h1 : wr.heap.size ≤ k := Nat.le_trans HBD.out.size hk
            exact ⟨HOKK.out k (by have := HWR.out; omega), fun e => by have := LOW.out k e.symm; omega⟩))
           exact r1.step (fun k hk _ => hf k (HOKO.out k hk.1).1)
          ·rw [HFL2.out]
           exact Kd.R_mono (Kd.R_step (Kd.R_types (Kd.R_below HE.out.row hbw) HBX6.out (by decide)) (fun k hk _ => hf k hk.2)) (fun k hk => hk.1)
         have HE7 := Aside0.mk hE7
         clear hE7 HE
         go_roundg (n2 - (j + 1))
         case measure => omega
         case rel => exact ⟨j + 1, i + 1, _, S2, _, rfl, by go_num, by go_num, by omega, Nat.le_refl _, by omega, HE7, HEF2, HFS2⟩
      ·have hx2 : ¬ 140 < x := by omega
       have HBB := Aside0.mk (show bytesAt nums i = 0 by rw [HNB.out]; show bytesAt l i = 0; rw [hbv]; omega)
       clear hbv HNB
       rcases hx with s1 | ⟨s1, s2⟩
       ·skip
        obtain ⟨S2, hS2⟩ : ∃ S2, S2 = changeS q y S' := ⟨_, rfl⟩
        have HEF2 := Aside0.mk (show endF p nums (S.pend.take (j + 1)) (0, S) = (i + 1, S2) by rw [hS2]; have hz := HEND.out 0 HBB.out; rw [show dat.extract 0 0 ++ y.extract 0 y.size = y by simp] at hz; exact hz)
        have HFS2 := Aside0.mk (show Fine kk S2 by rw [hS2]; exact HFS.out.change q HQN.out _ hysz)
        have HCH2 := Aside0.mk (fun (w : World) (hb : Below wr.heap.size wr w) => HCH.out y w hb)
        rw [← hS2] at HCH2
        have s9 : ¬ 9223372036854775807 < y.size := by omega
        have s6 : ¬ 9223372036854775807 < min 0 dat.size + (y.size - 0) := by omega
        have s7 : 0 ≤ dat.size := by omega
        have s8 : 0 ≤ y.size := by omega
        have s7z : (0 : Int) ≤ (dat.size : Int) := by omega
        have s8z : (0 : Int) ≤ (y.size : Int) := by omega
        clear hS2 HEND HCH hysz hdsz
        go_wp2_with fail
        obtain ⟨w5, hw5⟩ : ∃ w5, w5 = wr.alloc (.cells #[.int .i64 a.f0, .int .i64 (q : Int), .string dat] 99) := ⟨_, rfl⟩
        have hb5 : Below wr.heap.size wr w5 := by rw [hw5]; exact below_alloc (Below.refl _ _) _
        obtain ⟨tb, htb⟩ : ∃ tb, tb = wr.heap.size := ⟨_, rfl⟩
        have t5 : w5.heap[tb]? = some (.cells #[.int .i64 a.f0, .int .i64 (q : Int), .string dat] 99 (0, 0)) := by rw [hw5, htb]; exact blk_new _ _
        rw [← hw5, ← htb]
        have hbx5 := blk_below HE.out.box hb5
        obtain ⟨p0, p1, p2, p3, p4, p5, p6⟩ := cells7 hbx5
        have t1 : w5.cell? ⟨tb, 1, none⟩ = some (.int .i64 (q : Int)) := by rw [blk_cell t5]; rfl
        have t2 : w5.cell? ⟨tb, 2, none⟩ = some (.string dat) := by rw [blk_cell t5]; rfl
        have ty : w5.cell? (adq.add q) = some (.string y) := (hb5.cell hyb).trans y0
        have HBD := Aside0.mk (show Below wr.heap.size wr w5.drew from hb5.drew)
        have LOW := Aside0.mk (show ∀ b, u9.ownBlock = some b → b < wr.heap.size from Kd.R_lt HE.out.row)
        have HWR := Aside0.mk (show W.heap.size + 1 + 1 ≤ wr.heap.size by have := blk_lt HE.out.res; have := RBE.out; omega)
        clear hw5 htb hb5 t5 hbx5 k0 k1 k2 k3 k4 k5 k6 h0 h1 h2 lbx hba hba0 hyb hyb0 y0
        refine start_ (n := 18) (S := fun w' => w'.cell? ⟨bx, 0, none⟩ = some (.slice (some adq) n0 d0) ∧ w'.cell? ⟨bx, 1, none⟩ = some (.slice B1 n1 d1) ∧ w'.cell? ⟨bx, 2, none⟩ = some (.slice (some ad) n2 d2) ∧ w'.cell? ⟨bx, 3, none⟩ = some (.slice B3 n3 d3) ∧ w'.cell? ⟨bx, 4, none⟩ = some (.bool fa) ∧ w'.cell? ⟨bx, 5, none⟩ = some (.int .i64 fu) ∧ w'.cell? ⟨bx, 6, none⟩ = some (.slice B6 n6 d6) ∧ w'.cell? ⟨tb, 1, none⟩ = some (.int .i64 (q : Int)) ∧ w'.cell? ⟨tb, 2, none⟩ = some (.string dat) ∧ w'.cell? (adq.add q) = some (.string y)) (ds := [17]) #[false, false, false, false, false, false, false, false, false, false, false, false, false, false, false, false, false, false] (by kernel_rfl) rfl rfl ⟨p0, p1, p2, p3, p4, p5, p6, t1, t2, ty⟩ (fun hHeld => ?_)
        refine pure_ (i := 1) (N := some 53) (v := ?_) (a' := ?_) #[false, true, false, false, false, false, false, false, false, false, false, false, false, false, false, false, false, false] rfl rfl (by kernel_rfl) (fun _ _ _ h => h) (Or.inl ⟨by rfl, ?_⟩) ?_ ?_
        rotate_left
        ·intro w'
         go_simp
         with_reducible rfl
        rotate_left
        ·simp only [Act.put, List.setIfInBounds_toArray, List.set_cons_zero, List.set_cons_succ, i64_w, i32_w]
         rfl
        refine pure_ (i := 3) (N := some 55) (v := ?_) (a' := ?_) #[false, true, false, true, false, false, false, false, false, false, false, false, false, false, false, false, false, false] rfl rfl (by kernel_rfl) (fun _ _ _ h => h) (Or.inl ⟨by rfl, ?_⟩) ?_ ?_
        rotate_left
        ·intro w'
         go_simp
         with_reducible rfl
        rotate_left
        ·simp only [Act.put, List.setIfInBounds_toArray, List.set_cons_zero, List.set_cons_succ, i64_w, i32_w]
         rfl
        refine pure_ (i := 5) (N := some 57) (v := ?_) (a' := ?_) #[false, true, false, true, false, true, false, false, false, false, false, false, false, false, false, false, false, false] rfl rfl (by kernel_rfl) (fun _ _ _ h => h) (Or.inl ⟨by rfl, ?_⟩) ?_ ?_
        rotate_left
        ·intro w'
         go_simp
         with_reducible rfl
        rotate_left
        ·simp only [Act.put, List.setIfInBounds_toArray, List.set_cons_zero, List.set_cons_succ, i64_w, i32_w]
         rfl
        refine pure_ (i := 7) (N := some 59) (v := ?_) (a' := ?_) #[false, true, false, true, false, true, false, true, false, false, false, false, false, false, false, false, false, false] rfl rfl (by kernel_rfl) (fun _ _ _ h => h) (Or.inl ⟨by rfl, ?_⟩) ?_ ?_
        rotate_left
        ·intro w'
         go_simp
         with_reducible rfl
        rotate_left
        ·simp only [Act.put, List.setIfInBounds_toArray, List.set_cons_zero, List.set_cons_succ, i64_w, i32_w]
         rfl
        refine pure_ (i := 9) (N := some 61) (v := ?_) (a' := ?_) #[false, true, false, true, false, true, false, true, false, true, false, false, false, false, false, false, false, false] rfl rfl (by kernel_rfl) (fun _ _ _ h => h) (Or.inl ⟨by rfl, ?_⟩) ?_ ?_
        rotate_left
        ·intro w'
         go_simp
         with_reducible rfl
        rotate_left
        ·simp only [Act.put, List.setIfInBounds_toArray, List.set_cons_zero, List.set_cons_succ, i64_w, i32_w]
         rfl
        refine pure_ (i := 13) (N := some 65) (v := ?_) (a' := ?_) #[false, true, false, true, false, true, false, true, false, true, false, false, false, true, false, false, false, false] rfl rfl (by kernel_rfl) (fun _ _ _ h => h) (Or.inl ⟨by rfl, ?_⟩) ?_ ?_
        rotate_left
        ·intro w'
         go_simp
         with_reducible rfl
        rotate_left
        ·simp only [Act.put, List.setIfInBounds_toArray, List.set_cons_zero, List.set_cons_succ, i64_w, i32_w]
         rfl
        refine take_ (i := 0) (N := some 52) (v := ?_) (a' := ?_) #[true, true, false, true, false, true, false, true, false, true, false, false, false, true, false, false, false, false] rfl rfl (by kernel_rfl) (fun _ _ _ h => h) (Or.inl ⟨by rfl, ?_⟩) hHeld ?_ ?_
        rotate_left
        ·rintro w' ⟨s0, s1, s2, s3, s4, s5, s6, s7, s8, s9⟩
         go_simp
         with_reducible rfl
        rotate_left
        ·simp only [Act.put, List.setIfInBounds_toArray, List.set_cons_zero, List.set_cons_succ, i64_w, i32_w]
         rfl
        refine take_ (i := 2) (N := some 54) (v := ?_) (a' := ?_) #[true, true, true, true, false, true, false, true, false, true, false, false, false, true, false, false, false, false] rfl rfl (by kernel_rfl) (fun _ _ _ h => h) (Or.inl ⟨by rfl, ?_⟩) hHeld ?_ ?_
        rotate_left
        ·rintro w' ⟨s0, s1, s2, s3, s4, s5, s6, s7, s8, s9⟩
         go_simp
         with_reducible rfl
        rotate_left
        ·simp only [Act.put, List.setIfInBounds_toArray, List.set_cons_zero, List.set_cons_succ, i64_w, i32_w]
         rfl
        refine take_ (i := 4) (N := some 56) (v := ?_) (a' := ?_) #[true, true, true, true, true, true, false, true, false, true, false, false, false, true, false, false, false, false] rfl rfl (by kernel_rfl) (fun _ _ _ h => h) (Or.inl ⟨by rfl, ?_⟩) hHeld ?_ ?_
        rotate_left
        ·rintro w' ⟨s0, s1, s2, s3, s4, s5, s6, s7, s8, s9⟩
         go_simp
         with_reducible rfl
        rotate_left
        ·simp only [Act.put, List.setIfInBounds_toArray, List.set_cons_zero, List.set_cons_succ, i64_w, i32_w]
         rfl
        refine pure_ (i := 6) (N := some 58) (v := ?_) (a' := ?_) #[true, true, true, true, true, true, true, true, false, true, false, false, false, true, false, false, false, false] rfl rfl (by kernel_rfl) (fun _ _ _ h => h) (Or.inl ⟨by rfl, ?_⟩) ?_ ?_
        rotate_left
        ·intro w'
         go_simp
         with_reducible rfl
        rotate_left
        ·simp only [Act.put, List.setIfInBounds_toArray, List.set_cons_zero, List.set_cons_succ, i64_w, i32_w]
         rfl
        refine take_ (i := 8) (N := some 60) (v := ?_) (a' := ?_) #[true, true, true, true, true, true, true, true, true, true, false, false, false, true, false, false, false, false] rfl rfl (by kernel_rfl) (fun _ _ _ h => h) (Or.inl ⟨by rfl, ?_⟩) hHeld ?_ ?_
        rotate_left
        ·rintro w' ⟨s0, s1, s2, s3, s4, s5, s6, s7, s8, s9⟩
         go_simp
         with_reducible rfl
        rotate_left
        ·simp only [Act.put, List.setIfInBounds_toArray, List.set_cons_zero, List.set_cons_succ, i64_w, i32_w]
         rfl
        refine take_ (i := 10) (N := some 62) (v := ?_) (a' := ?_) #[true, true, true, true, true, true, true, true, true, true, true, false, false, true, false, false, false, false] rfl rfl (by kernel_rfl) (fun _ _ _ h => h) (Or.inl ⟨by rfl, ?_⟩) hHeld ?_ ?_
        rotate_left
        ·rintro w' ⟨s0, s1, s2, s3, s4, s5, s6, s7, s8, s9⟩
         go_simp
         with_reducible rfl
        rotate_left
        ·simp only [Act.put, List.setIfInBounds_toArray, List.set_cons_zero, List.set_cons_succ, i64_w, i32_w]
         rfl
        refine pure_ (i := 11) (N := some 63) (v := ?_) (a' := ?_) #[true, true, true, true, true, true, true, true, true, true, true, true, false, true, false, false, false, false] rfl rfl (by kernel_rfl) (fun _ _ _ h => h) (Or.inl ⟨by rfl, ?_⟩) ?_ ?_
        rotate_left
        ·intro w'
         go_simp
         with_reducible rfl
        rotate_left
        ·simp only [Act.put, List.setIfInBounds_toArray, List.set_cons_zero, List.set_cons_succ, i64_w, i32_w]
         rfl
        refine take_ (i := 12) (N := some 64) (v := ?_) (a' := ?_) #[true, true, true, true, true, true, true, true, true, true, true, true, true, true, false, false, false, false] rfl rfl (by kernel_rfl) (fun _ _ _ h => h) (Or.inl ⟨by rfl, ?_⟩) hHeld ?_ ?_
        rotate_left
        ·rintro w' ⟨s0, s1, s2, s3, s4, s5, s6, s7, s8, s9⟩
         go_simp
         with_reducible rfl
        rotate_left
        ·simp only [Act.put, List.setIfInBounds_toArray, List.set_cons_zero, List.set_cons_succ, i64_w, i32_w]
         rfl
        refine pure_ (i := 14) (N := some 66) (v := ?_) (a' := ?_) #[true, true, true, true, true, true, true, true, true, true, true, true, true, true, true, false, false, false] rfl rfl (by kernel_rfl) (fun _ _ _ h => h) (Or.inl ⟨by rfl, ?_⟩) ?_ ?_
        rotate_left
        ·intro w'
         go_simp
         with_reducible rfl
        rotate_left
        ·simp only [Act.put, List.setIfInBounds_toArray, List.set_cons_zero, List.set_cons_succ, i64_w, i32_w]
         rfl
        refine pure_ (i := 15) (N := some 67) (v := ?_) (a' := ?_) #[true, true, true, true, true, true, true, true, true, true, true, true, true, true, true, true, false, false] rfl rfl (by kernel_rfl) (fun _ _ _ h => h) (Or.inl ⟨by rfl, ?_⟩) ?_ ?_
        rotate_left
        ·intro w'
         go_simp
         with_reducible rfl
        rotate_left
        ·simp only [Act.put, List.setIfInBounds_toArray, List.set_cons_zero, List.set_cons_succ, i64_w, i32_w]
         rfl
        refine one_ (i := 16) (N := some 68) #[true, true, true, true, true, true, true, true, true, true, true, true, true, true, true, true, true, false] rfl rfl (by kernel_rfl) (by decide) (fun K hK => ?_)
        refine goes_ Try.func57 (by kernel_rfl) rfl #[.agg #[.slice (some adq) n0 d0, .slice B1 n1 d1, .slice (some ad) n2 d2, .slice B3 n3 d3, .bool fa, .int .i64 fu, .slice B6 n6 d6], .int .i64 (q : Int), .string y] (by rfl) rfl rfl (by simp only [List.map_toArray, List.map_cons, List.map_nil]; rfl) ?_
        with_reducible refine (HCH2.out _ HBD.out).mono ?_
        rintro e w6 ⟨v6, rfl, hR6, hb6⟩
        obtain ⟨E0, E1, E2, E3, E6, g0, g1, g2, g3, g6, hl, hu, hs, hRC6⟩ := hR6.open_
        obtain rfl := hRC6.hv
        have hbx6 := blk_below (blk_below HE.out.box HBD.out) hb6
        obtain ⟨m0, m1, m2, m3, m4, m5, m6⟩ := cells7 hbx6
        obtain ⟨z0, z1, z2, z3, z4, z5, z6⟩ := froz7 hbx6
        have HR6 := Aside0.mk hR6
        have HB6 := Aside0.mk hb6
        have HBX6 := Aside0.mk hbx6
        clear hRC6 hR6 hbx6
        refine ⟨_, rfl, ?_⟩
        refine hK.out _ _ (hold10 hb6 hHeld) (fun hHeld => ?_)
        clear hK K
        refine norm_ (a' := ?_) ?_ ?_
        rotate_left
        ·show Act.put _ (some 68) _ = _
         simp only [Act.put, List.setIfInBounds_toArray, List.set_cons_zero, List.set_cons_succ, i64_w, i32_w]
         rfl
        refine last_ (i := 17) (N := none) #[true, true, true, true, true, true, true, true, true, true, true, true, true, true, true, true, true, true] rfl rfl (by kernel_rfl) (by decide) (fun K hK => ?_)
        refine skip_ (w1 := ?_) (by rfl) rfl ?_ ?_
        rotate_left
        ·go_simp
         rfl
        refine hK.out _ _ ?_
        clear hK K
        refine done_ (by kernel_rfl) ?_
        go_wp2_with fail
        have hE7 : EndAt W (set7 w6 bx (.slice E0 S2.stable.length g0) (.slice E1 S2.old.length g1) (.slice E2 S2.pend.length g2) (.slice E3 hl.length g3) (.bool S2.failed) (.int .i64 hu) (.slice E6 hs.length g6)) okk bx rb #[.slice E0 S2.stable.length g0, .slice E1 S2.old.length g1, .slice E2 S2.pend.length g2, .slice E3 hl.length g3, .bool S2.failed, .int .i64 hu, .slice E6 hs.length g6] u9 ((S.pend.take (j + 1)).filter fun a => !p a) S2 := by
         have hf : ∀ k, k ≠ bx → (set7 w6 bx (.slice E0 S2.stable.length g0) (.slice E1 S2.old.length g1) (.slice E2 S2.pend.length g2) (.slice E3 hl.length g3) (.bool S2.failed) (.int .i64 hu) (.slice E6 hs.length g6)).heap[k]? = w6.heap[k]? := fun k hk => set7_far w6 bx (.slice E0 S2.stable.length g0) (.slice E1 S2.old.length g1) (.slice E2 S2.pend.length g2) (.slice E3 hl.length g3) (.bool S2.failed) (.int .i64 hu) (.slice E6 hs.length g6) k hk
         have hbw : Below wr.heap.size wr w6 := HBD.out.trans (HB6.out.mono HBD.out.size)
         refine ⟨set7_below (HE.out.bel.trans (hbw.mono HE.out.bel.size)) LB.out.1 (.slice E0 S2.stable.length g0) (.slice E1 S2.old.length g1) (.slice E2 S2.pend.length g2) (.slice E3 hl.length g3) (.bool S2.failed) (.int .i64 hu) (.slice E6 hs.length g6), set7_blk HBX6.out (.slice E0 S2.stable.length g0) (.slice E1 S2.old.length g1) (.slice E2 S2.pend.length g2) (.slice E3 hl.length g3) (.bool S2.failed) (.int .i64 hu) (.slice E6 hs.length g6), (hf rb (fun e => LB.out.2.2.2.1 e.symm)).trans (blk_below HE.out.res hbw), ?_, ?_⟩
         ·have r1 := HR6.out.mono (ok' := fun k => okk k ∧ some k ≠ u9.ownBlock) (fun k hk hlt => hk.elim id (fun hk => by
           have h1 : wr.heap.size ≤ k := Nat.le_trans HBD.out.size hk
           exact ⟨HOKK.out k (by have := HWR.out; omega), fun e => by have := LOW.out k e.symm; omega⟩))
          exact r1.step (fun k hk _ => hf k (HOKO.out k hk.1).1)
         ·rw [HFL2.out]
          exact Kd.R_mono (Kd.R_step (Kd.R_types (Kd.R_below HE.out.row hbw) HBX6.out (by decide)) (fun k hk _ => hf k hk.2)) (fun k hk => hk.1)
        have HE7 := Aside0.mk hE7
        clear hE7 HE
        go_roundg (n2 - (j + 1))
        case measure => omega
        case rel => exact ⟨j + 1, i + 1, _, S2, _, rfl, by go_num, by go_num, by omega, Nat.le_refl _, by omega, HE7, HEF2, HFS2⟩
       ·skip
        obtain ⟨S2, hS2⟩ : ∃ S2, S2 = changeS q y S' := ⟨_, rfl⟩
        have HEF2 := Aside0.mk (show endF p nums (S.pend.take (j + 1)) (0, S) = (i + 1, S2) by rw [hS2]; have hz := HEND.out 0 HBB.out; rw [show dat.extract 0 0 ++ y.extract 0 y.size = y by simp] at hz; exact hz)
        have HFS2 := Aside0.mk (show Fine kk S2 by rw [hS2]; exact HFS.out.change q HQN.out _ hysz)
        have HCH2 := Aside0.mk (fun (w : World) (hb : Below wr.heap.size wr w) => HCH.out y w hb)
        rw [← hS2] at HCH2
        have s9 : ¬ 9223372036854775807 < y.size := by omega
        have s6 : ¬ 9223372036854775807 < min 0 dat.size + (y.size - 0) := by omega
        have s7 : 0 ≤ dat.size := by omega
        have s8 : 0 ≤ y.size := by omega
        have s7z : (0 : Int) ≤ (dat.size : Int) := by omega
        have s8z : (0 : Int) ≤ (y.size : Int) := by omega
        clear hS2 HEND HCH hysz hdsz
        go_wp2_with fail
        obtain ⟨w5, hw5⟩ : ∃ w5, w5 = wr.alloc (.cells #[.int .i64 a.f0, .int .i64 (q : Int), .string dat] 99) := ⟨_, rfl⟩
        have hb5 : Below wr.heap.size wr w5 := by rw [hw5]; exact below_alloc (Below.refl _ _) _
        obtain ⟨tb, htb⟩ : ∃ tb, tb = wr.heap.size := ⟨_, rfl⟩
        have t5 : w5.heap[tb]? = some (.cells #[.int .i64 a.f0, .int .i64 (q : Int), .string dat] 99 (0, 0)) := by rw [hw5, htb]; exact blk_new _ _
        rw [← hw5, ← htb]
        have hbx5 := blk_below HE.out.box hb5
        obtain ⟨p0, p1, p2, p3, p4, p5, p6⟩ := cells7 hbx5
        have t1 : w5.cell? ⟨tb, 1, none⟩ = some (.int .i64 (q : Int)) := by rw [blk_cell t5]; rfl
        have t2 : w5.cell? ⟨tb, 2, none⟩ = some (.string dat) := by rw [blk_cell t5]; rfl
        have ty : w5.cell? (adq.add q) = some (.string y) := (hb5.cell hyb).trans y0
        have HBD := Aside0.mk (show Below wr.heap.size wr w5.drew from hb5.drew)
        have LOW := Aside0.mk (show ∀ b, u9.ownBlock = some b → b < wr.heap.size from Kd.R_lt HE.out.row)
        have HWR := Aside0.mk (show W.heap.size + 1 + 1 ≤ wr.heap.size by have := blk_lt HE.out.res; have := RBE.out; omega)
        clear hw5 htb hb5 t5 hbx5 k0 k1 k2 k3 k4 k5 k6 h0 h1 h2 lbx hba hba0 hyb hyb0 y0
        refine start_ (n := 18) (S := fun w' => w'.cell? ⟨bx, 0, none⟩ = some (.slice (some adq) n0 d0) ∧ w'.cell? ⟨bx, 1, none⟩ = some (.slice B1 n1 d1) ∧ w'.cell? ⟨bx, 2, none⟩ = some (.slice (some ad) n2 d2) ∧ w'.cell? ⟨bx, 3, none⟩ = some (.slice B3 n3 d3) ∧ w'.cell? ⟨bx, 4, none⟩ = some (.bool fa) ∧ w'.cell? ⟨bx, 5, none⟩ = some (.int .i64 fu) ∧ w'.cell? ⟨bx, 6, none⟩ = some (.slice B6 n6 d6) ∧ w'.cell? ⟨tb, 1, none⟩ = some (.int .i64 (q : Int)) ∧ w'.cell? ⟨tb, 2, none⟩ = some (.string dat) ∧ w'.cell? (adq.add q) = some (.string y)) (ds := [17]) #[false, false, false, false, false, false, false, false, false, false, false, false, false, false, false, false, false, false] (by kernel_rfl) rfl rfl ⟨p0, p1, p2, p3, p4, p5, p6, t1, t2, ty⟩ (fun hHeld => ?_)
        refine pure_ (i := 1) (N := some 53) (v := ?_) (a' := ?_) #[false, true, false, false, false, false, false, false, false, false, false, false, false, false, false, false, false, false] rfl rfl (by kernel_rfl) (fun _ _ _ h => h) (Or.inl ⟨by rfl, ?_⟩) ?_ ?_
        rotate_left
        ·intro w'
         go_simp
         with_reducible rfl
        rotate_left
        ·simp only [Act.put, List.setIfInBounds_toArray, List.set_cons_zero, List.set_cons_succ, i64_w, i32_w]
         rfl
        refine pure_ (i := 3) (N := some 55) (v := ?_) (a' := ?_) #[false, true, false, true, false, false, false, false, false, false, false, false, false, false, false, false, false, false] rfl rfl (by kernel_rfl) (fun _ _ _ h => h) (Or.inl ⟨by rfl, ?_⟩) ?_ ?_
        rotate_left
        ·intro w'
         go_simp
         with_reducible rfl
        rotate_left
        ·simp only [Act.put, List.setIfInBounds_toArray, List.set_cons_zero, List.set_cons_succ, i64_w, i32_w]
         rfl
        refine pure_ (i := 5) (N := some 57) (v := ?_) (a' := ?_) #[false, true, false, true, false, true, false, false, false, false, false, false, false, false, false, false, false, false] rfl rfl (by kernel_rfl) (fun _ _ _ h => h) (Or.inl ⟨by rfl, ?_⟩) ?_ ?_
        rotate_left
        ·intro w'
         go_simp
         with_reducible rfl
        rotate_left
        ·simp only [Act.put, List.setIfInBounds_toArray, List.set_cons_zero, List.set_cons_succ, i64_w, i32_w]
         rfl
        refine pure_ (i := 7) (N := some 59) (v := ?_) (a' := ?_) #[false, true, false, true, false, true, false, true, false, false, false, false, false, false, false, false, false, false] rfl rfl (by kernel_rfl) (fun _ _ _ h => h) (Or.inl ⟨by rfl, ?_⟩) ?_ ?_
        rotate_left
        ·intro w'
         go_simp
         with_reducible rfl
        rotate_left
        ·simp only [Act.put, List.setIfInBounds_toArray, List.set_cons_zero, List.set_cons_succ, i64_w, i32_w]
         rfl
        refine pure_ (i := 9) (N := some 61) (v := ?_) (a' := ?_) #[false, true, false, true, false, true, false, true, false, true, false, false, false, false, false, false, false, false] rfl rfl (by kernel_rfl) (fun _ _ _ h => h) (Or.inl ⟨by rfl, ?_⟩) ?_ ?_
        rotate_left
        ·intro w'
         go_simp
         with_reducible rfl
        rotate_left
        ·simp only [Act.put, List.setIfInBounds_toArray, List.set_cons_zero, List.set_cons_succ, i64_w, i32_w]
         rfl
        refine pure_ (i := 13) (N := some 65) (v := ?_) (a' := ?_) #[false, true, false, true, false, true, false, true, false, true, false, false, false, true, false, false, false, false] rfl rfl (by kernel_rfl) (fun _ _ _ h => h) (Or.inl ⟨by rfl, ?_⟩) ?_ ?_
        rotate_left
        ·intro w'
         go_simp
         with_reducible rfl
        rotate_left
        ·simp only [Act.put, List.setIfInBounds_toArray, List.set_cons_zero, List.set_cons_succ, i64_w, i32_w]
         rfl
        refine take_ (i := 0) (N := some 52) (v := ?_) (a' := ?_) #[true, true, false, true, false, true, false, true, false, true, false, false, false, true, false, false, false, false] rfl rfl (by kernel_rfl) (fun _ _ _ h => h) (Or.inl ⟨by rfl, ?_⟩) hHeld ?_ ?_
        rotate_left
        ·rintro w' ⟨s0, s1, s2, s3, s4, s5, s6, s7, s8, s9⟩
         go_simp
         with_reducible rfl
        rotate_left
        ·simp only [Act.put, List.setIfInBounds_toArray, List.set_cons_zero, List.set_cons_succ, i64_w, i32_w]
         rfl
        refine take_ (i := 2) (N := some 54) (v := ?_) (a' := ?_) #[true, true, true, true, false, true, false, true, false, true, false, false, false, true, false, false, false, false] rfl rfl (by kernel_rfl) (fun _ _ _ h => h) (Or.inl ⟨by rfl, ?_⟩) hHeld ?_ ?_
        rotate_left
        ·rintro w' ⟨s0, s1, s2, s3, s4, s5, s6, s7, s8, s9⟩
         go_simp
         with_reducible rfl
        rotate_left
        ·simp only [Act.put, List.setIfInBounds_toArray, List.set_cons_zero, List.set_cons_succ, i64_w, i32_w]
         rfl
        refine take_ (i := 4) (N := some 56) (v := ?_) (a' := ?_) #[true, true, true, true, true, true, false, true, false, true, false, false, false, true, false, false, false, false] rfl rfl (by kernel_rfl) (fun _ _ _ h => h) (Or.inl ⟨by rfl, ?_⟩) hHeld ?_ ?_
        rotate_left
        ·rintro w' ⟨s0, s1, s2, s3, s4, s5, s6, s7, s8, s9⟩
         go_simp
         with_reducible rfl
        rotate_left
        ·simp only [Act.put, List.setIfInBounds_toArray, List.set_cons_zero, List.set_cons_succ, i64_w, i32_w]
         rfl
        refine pure_ (i := 6) (N := some 58) (v := ?_) (a' := ?_) #[true, true, true, true, true, true, true, true, false, true, false, false, false, true, false, false, false, false] rfl rfl (by kernel_rfl) (fun _ _ _ h => h) (Or.inl ⟨by rfl, ?_⟩) ?_ ?_
        rotate_left
        ·intro w'
         go_simp
         with_reducible rfl
        rotate_left
        ·simp only [Act.put, List.setIfInBounds_toArray, List.set_cons_zero, List.set_cons_succ, i64_w, i32_w]
         rfl
        refine take_ (i := 8) (N := some 60) (v := ?_) (a' := ?_) #[true, true, true, true, true, true, true, true, true, true, false, false, false, true, false, false, false, false] rfl rfl (by kernel_rfl) (fun _ _ _ h => h) (Or.inl ⟨by rfl, ?_⟩) hHeld ?_ ?_
        rotate_left
        ·rintro w' ⟨s0, s1, s2, s3, s4, s5, s6, s7, s8, s9⟩
         go_simp
         with_reducible rfl
        rotate_left
        ·simp only [Act.put, List.setIfInBounds_toArray, List.set_cons_zero, List.set_cons_succ, i64_w, i32_w]
         rfl
        refine take_ (i := 10) (N := some 62) (v := ?_) (a' := ?_) #[true, true, true, true, true, true, true, true, true, true, true, false, false, true, false, false, false, false] rfl rfl (by kernel_rfl) (fun _ _ _ h => h) (Or.inl ⟨by rfl, ?_⟩) hHeld ?_ ?_
        rotate_left
        ·rintro w' ⟨s0, s1, s2, s3, s4, s5, s6, s7, s8, s9⟩
         go_simp
         with_reducible rfl
        rotate_left
        ·simp only [Act.put, List.setIfInBounds_toArray, List.set_cons_zero, List.set_cons_succ, i64_w, i32_w]
         rfl
        refine pure_ (i := 11) (N := some 63) (v := ?_) (a' := ?_) #[true, true, true, true, true, true, true, true, true, true, true, true, false, true, false, false, false, false] rfl rfl (by kernel_rfl) (fun _ _ _ h => h) (Or.inl ⟨by rfl, ?_⟩) ?_ ?_
        rotate_left
        ·intro w'
         go_simp
         with_reducible rfl
        rotate_left
        ·simp only [Act.put, List.setIfInBounds_toArray, List.set_cons_zero, List.set_cons_succ, i64_w, i32_w]
         rfl
        refine take_ (i := 12) (N := some 64) (v := ?_) (a' := ?_) #[true, true, true, true, true, true, true, true, true, true, true, true, true, true, false, false, false, false] rfl rfl (by kernel_rfl) (fun _ _ _ h => h) (Or.inl ⟨by rfl, ?_⟩) hHeld ?_ ?_
        rotate_left
        ·rintro w' ⟨s0, s1, s2, s3, s4, s5, s6, s7, s8, s9⟩
         go_simp
         with_reducible rfl
        rotate_left
        ·simp only [Act.put, List.setIfInBounds_toArray, List.set_cons_zero, List.set_cons_succ, i64_w, i32_w]
         rfl
        refine pure_ (i := 14) (N := some 66) (v := ?_) (a' := ?_) #[true, true, true, true, true, true, true, true, true, true, true, true, true, true, true, false, false, false] rfl rfl (by kernel_rfl) (fun _ _ _ h => h) (Or.inl ⟨by rfl, ?_⟩) ?_ ?_
        rotate_left
        ·intro w'
         go_simp
         with_reducible rfl
        rotate_left
        ·simp only [Act.put, List.setIfInBounds_toArray, List.set_cons_zero, List.set_cons_succ, i64_w, i32_w]
         rfl
        refine pure_ (i := 15) (N := some 67) (v := ?_) (a' := ?_) #[true, true, true, true, true, true, true, true, true, true, true, true, true, true, true, true, false, false] rfl rfl (by kernel_rfl) (fun _ _ _ h => h) (Or.inl ⟨by rfl, ?_⟩) ?_ ?_
        rotate_left
        ·intro w'
         go_simp
         with_reducible rfl
        rotate_left
        ·simp only [Act.put, List.setIfInBounds_toArray, List.set_cons_zero, List.set_cons_succ, i64_w, i32_w]
         rfl
        refine one_ (i := 16) (N := some 68) #[true, true, true, true, true, true, true, true, true, true, true, true, true, true, true, true, true, false] rfl rfl (by kernel_rfl) (by decide) (fun K hK => ?_)
        refine goes_ Try.func57 (by kernel_rfl) rfl #[.agg #[.slice (some adq) n0 d0, .slice B1 n1 d1, .slice (some ad) n2 d2, .slice B3 n3 d3, .bool fa, .int .i64 fu, .slice B6 n6 d6], .int .i64 (q : Int), .string y] (by rfl) rfl rfl (by simp only [List.map_toArray, List.map_cons, List.map_nil]; rfl) ?_
        with_reducible refine (HCH2.out _ HBD.out).mono ?_
        rintro e w6 ⟨v6, rfl, hR6, hb6⟩
        obtain ⟨E0, E1, E2, E3, E6, g0, g1, g2, g3, g6, hl, hu, hs, hRC6⟩ := hR6.open_
        obtain rfl := hRC6.hv
        have hbx6 := blk_below (blk_below HE.out.box HBD.out) hb6
        obtain ⟨m0, m1, m2, m3, m4, m5, m6⟩ := cells7 hbx6
        obtain ⟨z0, z1, z2, z3, z4, z5, z6⟩ := froz7 hbx6
        have HR6 := Aside0.mk hR6
        have HB6 := Aside0.mk hb6
        have HBX6 := Aside0.mk hbx6
        clear hRC6 hR6 hbx6
        refine ⟨_, rfl, ?_⟩
        refine hK.out _ _ (hold10 hb6 hHeld) (fun hHeld => ?_)
        clear hK K
        refine norm_ (a' := ?_) ?_ ?_
        rotate_left
        ·show Act.put _ (some 68) _ = _
         simp only [Act.put, List.setIfInBounds_toArray, List.set_cons_zero, List.set_cons_succ, i64_w, i32_w]
         rfl
        refine last_ (i := 17) (N := none) #[true, true, true, true, true, true, true, true, true, true, true, true, true, true, true, true, true, true] rfl rfl (by kernel_rfl) (by decide) (fun K hK => ?_)
        refine skip_ (w1 := ?_) (by rfl) rfl ?_ ?_
        rotate_left
        ·go_simp
         rfl
        refine hK.out _ _ ?_
        clear hK K
        refine done_ (by kernel_rfl) ?_
        go_wp2_with fail
        have hE7 : EndAt W (set7 w6 bx (.slice E0 S2.stable.length g0) (.slice E1 S2.old.length g1) (.slice E2 S2.pend.length g2) (.slice E3 hl.length g3) (.bool S2.failed) (.int .i64 hu) (.slice E6 hs.length g6)) okk bx rb #[.slice E0 S2.stable.length g0, .slice E1 S2.old.length g1, .slice E2 S2.pend.length g2, .slice E3 hl.length g3, .bool S2.failed, .int .i64 hu, .slice E6 hs.length g6] u9 ((S.pend.take (j + 1)).filter fun a => !p a) S2 := by
         have hf : ∀ k, k ≠ bx → (set7 w6 bx (.slice E0 S2.stable.length g0) (.slice E1 S2.old.length g1) (.slice E2 S2.pend.length g2) (.slice E3 hl.length g3) (.bool S2.failed) (.int .i64 hu) (.slice E6 hs.length g6)).heap[k]? = w6.heap[k]? := fun k hk => set7_far w6 bx (.slice E0 S2.stable.length g0) (.slice E1 S2.old.length g1) (.slice E2 S2.pend.length g2) (.slice E3 hl.length g3) (.bool S2.failed) (.int .i64 hu) (.slice E6 hs.length g6) k hk
         have hbw : Below wr.heap.size wr w6 := HBD.out.trans (HB6.out.mono HBD.out.size)
         refine ⟨set7_below (HE.out.bel.trans (hbw.mono HE.out.bel.size)) LB.out.1 (.slice E0 S2.stable.length g0) (.slice E1 S2.old.length g1) (.slice E2 S2.pend.length g2) (.slice E3 hl.length g3) (.bool S2.failed) (.int .i64 hu) (.slice E6 hs.length g6), set7_blk HBX6.out (.slice E0 S2.stable.length g0) (.slice E1 S2.old.length g1) (.slice E2 S2.pend.length g2) (.slice E3 hl.length g3) (.bool S2.failed) (.int .i64 hu) (.slice E6 hs.length g6), (hf rb (fun e => LB.out.2.2.2.1 e.symm)).trans (blk_below HE.out.res hbw), ?_, ?_⟩
         ·have r1 := HR6.out.mono (ok' := fun k => okk k ∧ some k ≠ u9.ownBlock) (fun k hk hlt => hk.elim id (fun hk => by
           have h1 : wr.heap.size ≤ k := Nat.le_trans HBD.out.size hk
           exact ⟨HOKK.out k (by have := HWR.out; omega), fun e => by have := LOW.out k e.symm; omega⟩))
          exact r1.step (fun k hk _ => hf k (HOKO.out k hk.1).1)
         ·rw [HFL2.out]
          exact Kd.R_mono (Kd.R_step (Kd.R_types (Kd.R_below HE.out.row hbw) HBX6.out (by decide)) (fun k hk _ => hf k hk.2)) (fun k hk => hk.1)
        have HE7 := Aside0.mk hE7
        clear hE7 HE
        go_roundg (n2 - (j + 1))
        case measure => omega
        case rel => exact ⟨j + 1, i + 1, _, S2, _, rfl, by go_num, by go_num, by omega, Nat.le_refl _, by omega, HE7, HEF2, HFS2⟩
     ·have hln : decide ((i : Int) < (l.length : Int)) = false := decide_eq_false (by omega)
      have HBB := Aside0.mk (show bytesAt nums i = 0 by rw [HNB.out]; show bytesAt l i = 0; unfold bytesAt; rw [List.getElem?_eq_none (by omega)])
      clear HNB
      rcases hx with s1 | ⟨s1, s2⟩
      ·skip
       obtain ⟨S2, hS2⟩ : ∃ S2, S2 = changeS q y S' := ⟨_, rfl⟩
       have HEF2 := Aside0.mk (show endF p nums (S.pend.take (j + 1)) (0, S) = (i + 1, S2) by rw [hS2]; have hz := HEND.out 0 HBB.out; rw [show dat.extract 0 0 ++ y.extract 0 y.size = y by simp] at hz; exact hz)
       have HFS2 := Aside0.mk (show Fine kk S2 by rw [hS2]; exact HFS.out.change q HQN.out _ hysz)
       have HCH2 := Aside0.mk (fun (w : World) (hb : Below wr.heap.size wr w) => HCH.out y w hb)
       rw [← hS2] at HCH2
       have s9 : ¬ 9223372036854775807 < y.size := by omega
       have s6 : ¬ 9223372036854775807 < min 0 dat.size + (y.size - 0) := by omega
       have s7 : 0 ≤ dat.size := by omega
       have s8 : 0 ≤ y.size := by omega
       have s7z : (0 : Int) ≤ (dat.size : Int) := by omega
       have s8z : (0 : Int) ≤ (y.size : Int) := by omega
       clear hS2 HEND HCH hysz hdsz
       go_wp2_with fail
       obtain ⟨w5, hw5⟩ : ∃ w5, w5 = wr.alloc (.cells #[.int .i64 a.f0, .int .i64 (q : Int), .string dat] 99) := ⟨_, rfl⟩
       have hb5 : Below wr.heap.size wr w5 := by rw [hw5]; exact below_alloc (Below.refl _ _) _
       obtain ⟨tb, htb⟩ : ∃ tb, tb = wr.heap.size := ⟨_, rfl⟩
       have t5 : w5.heap[tb]? = some (.cells #[.int .i64 a.f0, .int .i64 (q : Int), .string dat] 99 (0, 0)) := by rw [hw5, htb]; exact blk_new _ _
       rw [← hw5, ← htb]
       have hbx5 := blk_below HE.out.box hb5
       obtain ⟨p0, p1, p2, p3, p4, p5, p6⟩ := cells7 hbx5
       have t1 : w5.cell? ⟨tb, 1, none⟩ = some (.int .i64 (q : Int)) := by rw [blk_cell t5]; rfl
       have t2 : w5.cell? ⟨tb, 2, none⟩ = some (.string dat) := by rw [blk_cell t5]; rfl
       have ty : w5.cell? (adq.add q) = some (.string y) := (hb5.cell hyb).trans y0
       have HBD := Aside0.mk (show Below wr.heap.size wr w5.drew from hb5.drew)
       have LOW := Aside0.mk (show ∀ b, u9.ownBlock = some b → b < wr.heap.size from Kd.R_lt HE.out.row)
       have HWR := Aside0.mk (show W.heap.size + 1 + 1 ≤ wr.heap.size by have := blk_lt HE.out.res; have := RBE.out; omega)
       clear hw5 htb hb5 t5 hbx5 k0 k1 k2 k3 k4 k5 k6 h0 h1 h2 lbx hba hba0 hyb hyb0 y0
       refine start_ (n := 18) (S := fun w' => w'.cell? ⟨bx, 0, none⟩ = some (.slice (some adq) n0 d0) ∧ w'.cell? ⟨bx, 1, none⟩ = some (.slice B1 n1 d1) ∧ w'.cell? ⟨bx, 2, none⟩ = some (.slice (some ad) n2 d2) ∧ w'.cell? ⟨bx, 3, none⟩ = some (.slice B3 n3 d3) ∧ w'.cell? ⟨bx, 4, none⟩ = some (.bool fa) ∧ w'.cell? ⟨bx, 5, none⟩ = some (.int .i64 fu) ∧ w'.cell? ⟨bx, 6, none⟩ = some (.slice B6 n6 d6) ∧ w'.cell? ⟨tb, 1, none⟩ = some (.int .i64 (q : Int)) ∧ w'.cell? ⟨tb, 2, none⟩ = some (.string dat) ∧ w'.cell? (adq.add q) = some (.string y)) (ds := [17]) #[false, false, false, false, false, false, false, false, false, false, false, false, false, false, false, false, false, false] (by kernel_rfl) rfl rfl ⟨p0, p1, p2, p3, p4, p5, p6, t1, t2, ty⟩ (fun hHeld => ?_)
       refine pure_ (i := 1) (N := some 53) (v := ?_) (a' := ?_) #[false, true, false, false, false, false, false, false, false, false, false, false, false, false, false, false, false, false] rfl rfl (by kernel_rfl) (fun _ _ _ h => h) (Or.inl ⟨by rfl, ?_⟩) ?_ ?_
       rotate_left
       ·intro w'
        go_simp
        with_reducible rfl
       rotate_left
       ·simp only [Act.put, List.setIfInBounds_toArray, List.set_cons_zero, List.set_cons_succ, i64_w, i32_w]
        rfl
       refine pure_ (i := 3) (N := some 55) (v := ?_) (a' := ?_) #[false, true, false, true, false, false, false, false, false, false, false, false, false, false, false, false, false, false] rfl rfl (by kernel_rfl) (fun _ _ _ h => h) (Or.inl ⟨by rfl, ?_⟩) ?_ ?_
       rotate_left
       ·intro w'
        go_simp
        with_reducible rfl
       rotate_left
       ·simp only [Act.put, List.setIfInBounds_toArray, List.set_cons_zero, List.set_cons_succ, i64_w, i32_w]
        rfl
       refine pure_ (i := 5) (N := some 57) (v := ?_) (a' := ?_) #[false, true, false, true, false, true, false, false, false, false, false, false, false, false, false, false, false, false] rfl rfl (by kernel_rfl) (fun _ _ _ h => h) (Or.inl ⟨by rfl, ?_⟩) ?_ ?_
       rotate_left
       ·intro w'
        go_simp
        with_reducible rfl
       rotate_left
       ·simp only [Act.put, List.setIfInBounds_toArray, List.set_cons_zero, List.set_cons_succ, i64_w, i32_w]
        rfl
       refine pure_ (i := 7) (N := some 59) (v := ?_) (a' := ?_) #[false, true, false, true, false, true, false, true, false, false, false, false, false, false, false, false, false, false] rfl rfl (by kernel_rfl) (fun _ _ _ h => h) (Or.inl ⟨by rfl, ?_⟩) ?_ ?_
       rotate_left
       ·intro w'
        go_simp
        with_reducible rfl
       rotate_left
       ·simp only [Act.put, List.setIfInBounds_toArray, List.set_cons_zero, List.set_cons_succ, i64_w, i32_w]
        rfl
       refine pure_ (i := 9) (N := some 61) (v := ?_) (a' := ?_) #[false, true, false, true, false, true, false, true, false, true, false, false, false, false, false, false, false, false] rfl rfl (by kernel_rfl) (fun _ _ _ h => h) (Or.inl ⟨by rfl, ?_⟩) ?_ ?_
       rotate_left
       ·intro w'
        go_simp
        with_reducible rfl
       rotate_left
       ·simp only [Act.put, List.setIfInBounds_toArray, List.set_cons_zero, List.set_cons_succ, i64_w, i32_w]
        rfl
       refine pure_ (i := 13) (N := some 65) (v := ?_) (a' := ?_) #[false, true, false, true, false, true, false, true, false, true, false, false, false, true, false, false, false, false] rfl rfl (by kernel_rfl) (fun _ _ _ h => h) (Or.inl ⟨by rfl, ?_⟩) ?_ ?_
       rotate_left
       ·intro w'
        go_simp
        with_reducible rfl
       rotate_left
       ·simp only [Act.put, List.setIfInBounds_toArray, List.set_cons_zero, List.set_cons_succ, i64_w, i32_w]
        rfl
       refine take_ (i := 0) (N := some 52) (v := ?_) (a' := ?_) #[true, true, false, true, false, true, false, true, false, true, false, false, false, true, false, false, false, false] rfl rfl (by kernel_rfl) (fun _ _ _ h => h) (Or.inl ⟨by rfl, ?_⟩) hHeld ?_ ?_
       rotate_left
       ·rintro w' ⟨s0, s1, s2, s3, s4, s5, s6, s7, s8, s9⟩
        go_simp
        with_reducible rfl
       rotate_left
       ·simp only [Act.put, List.setIfInBounds_toArray, List.set_cons_zero, List.set_cons_succ, i64_w, i32_w]
        rfl
       refine take_ (i := 2) (N := some 54) (v := ?_) (a' := ?_) #[true, true, true, true, false, true, false, true, false, true, false, false, false, true, false, false, false, false] rfl rfl (by kernel_rfl) (fun _ _ _ h => h) (Or.inl ⟨by rfl, ?_⟩) hHeld ?_ ?_
       rotate_left
       ·rintro w' ⟨s0, s1, s2, s3, s4, s5, s6, s7, s8, s9⟩
        go_simp
        with_reducible rfl
       rotate_left
       ·simp only [Act.put, List.setIfInBounds_toArray, List.set_cons_zero, List.set_cons_succ, i64_w, i32_w]
        rfl
       refine take_ (i := 4) (N := some 56) (v := ?_) (a' := ?_) #[true, true, true, true, true, true, false, true, false, true, false, false, false, true, false, false, false, false] rfl rfl (by kernel_rfl) (fun _ _ _ h => h) (Or.inl ⟨by rfl, ?_⟩) hHeld ?_ ?_
       rotate_left
       ·rintro w' ⟨s0, s1, s2, s3, s4, s5, s6, s7, s8, s9⟩
        go_simp
        with_reducible rfl
       rotate_left
       ·simp only [Act.put, List.setIfInBounds_toArray, List.set_cons_zero, List.set_cons_succ, i64_w, i32_w]
        rfl
       refine pure_ (i := 6) (N := some 58) (v := ?_) (a' := ?_) #[true, true, true, true, true, true, true, true, false, true, false, false, false, true, false, false, false, false] rfl rfl (by kernel_rfl) (fun _ _ _ h => h) (Or.inl ⟨by rfl, ?_⟩) ?_ ?_
       rotate_left
       ·intro w'
        go_simp
        with_reducible rfl
       rotate_left
       ·simp only [Act.put, List.setIfInBounds_toArray, List.set_cons_zero, List.set_cons_succ, i64_w, i32_w]
        rfl
       refine take_ (i := 8) (N := some 60) (v := ?_) (a' := ?_) #[true, true, true, true, true, true, true, true, true, true, false, false, false, true, false, false, false, false] rfl rfl (by kernel_rfl) (fun _ _ _ h => h) (Or.inl ⟨by rfl, ?_⟩) hHeld ?_ ?_
       rotate_left
       ·rintro w' ⟨s0, s1, s2, s3, s4, s5, s6, s7, s8, s9⟩
        go_simp
        with_reducible rfl
       rotate_left
       ·simp only [Act.put, List.setIfInBounds_toArray, List.set_cons_zero, List.set_cons_succ, i64_w, i32_w]
        rfl
       refine take_ (i := 10) (N := some 62) (v := ?_) (a' := ?_) #[true, true, true, true, true, true, true, true, true, true, true, false, false, true, false, false, false, false] rfl rfl (by kernel_rfl) (fun _ _ _ h => h) (Or.inl ⟨by rfl, ?_⟩) hHeld ?_ ?_
       rotate_left
       ·rintro w' ⟨s0, s1, s2, s3, s4, s5, s6, s7, s8, s9⟩
        go_simp
        with_reducible rfl
       rotate_left
       ·simp only [Act.put, List.setIfInBounds_toArray, List.set_cons_zero, List.set_cons_succ, i64_w, i32_w]
        rfl
       refine pure_ (i := 11) (N := some 63) (v := ?_) (a' := ?_) #[true, true, true, true, true, true, true, true, true, true, true, true, false, true, false, false, false, false] rfl rfl (by kernel_rfl) (fun _ _ _ h => h) (Or.inl ⟨by rfl, ?_⟩) ?_ ?_
       rotate_left
       ·intro w'
        go_simp
        with_reducible rfl
       rotate_left
       ·simp only [Act.put, List.setIfInBounds_toArray, List.set_cons_zero, List.set_cons_succ, i64_w, i32_w]
        rfl
       refine take_ (i := 12) (N := some 64) (v := ?_) (a' := ?_) #[true, true, true, true, true, true, true, true, true, true, true, true, true, true, false, false, false, false] rfl rfl (by kernel_rfl) (fun _ _ _ h => h) (Or.inl ⟨by rfl, ?_⟩) hHeld ?_ ?_
       rotate_left
       ·rintro w' ⟨s0, s1, s2, s3, s4, s5, s6, s7, s8, s9⟩
        go_simp
        with_reducible rfl
       rotate_left
       ·simp only [Act.put, List.setIfInBounds_toArray, List.set_cons_zero, List.set_cons_succ, i64_w, i32_w]
        rfl
       refine pure_ (i := 14) (N := some 66) (v := ?_) (a' := ?_) #[true, true, true, true, true, true, true, true, true, true, true, true, true, true, true, false, false, false] rfl rfl (by kernel_rfl) (fun _ _ _ h => h) (Or.inl ⟨by rfl, ?_⟩) ?_ ?_
       rotate_left
       ·intro w'
        go_simp
        with_reducible rfl
       rotate_left
       ·simp only [Act.put, List.setIfInBounds_toArray, List.set_cons_zero, List.set_cons_succ, i64_w, i32_w]
        rfl
       refine pure_ (i := 15) (N := some 67) (v := ?_) (a' := ?_) #[true, true, true, true, true, true, true, true, true, true, true, true, true, true, true, true, false, false] rfl rfl (by kernel_rfl) (fun _ _ _ h => h) (Or.inl ⟨by rfl, ?_⟩) ?_ ?_
       rotate_left
       ·intro w'
        go_simp
        with_reducible rfl
       rotate_left
       ·simp only [Act.put, List.setIfInBounds_toArray, List.set_cons_zero, List.set_cons_succ, i64_w, i32_w]
        rfl
       refine one_ (i := 16) (N := some 68) #[true, true, true, true, true, true, true, true, true, true, true, true, true, true, true, true, true, false] rfl rfl (by kernel_rfl) (by decide) (fun K hK => ?_)
       refine goes_ Try.func57 (by kernel_rfl) rfl #[.agg #[.slice (some adq) n0 d0, .slice B1 n1 d1, .slice (some ad) n2 d2, .slice B3 n3 d3, .bool fa, .int .i64 fu, .slice B6 n6 d6], .int .i64 (q : Int), .string y] (by rfl) rfl rfl (by simp only [List.map_toArray, List.map_cons, List.map_nil]; rfl) ?_
       with_reducible refine (HCH2.out _ HBD.out).mono ?_
       rintro e w6 ⟨v6, rfl, hR6, hb6⟩
       obtain ⟨E0, E1, E2, E3, E6, g0, g1, g2, g3, g6, hl, hu, hs, hRC6⟩ := hR6.open_
       obtain rfl := hRC6.hv
       have hbx6 := blk_below (blk_below HE.out.box HBD.out) hb6
       obtain ⟨m0, m1, m2, m3, m4, m5, m6⟩ := cells7 hbx6
       obtain ⟨z0, z1, z2, z3, z4, z5, z6⟩ := froz7 hbx6
       have HR6 := Aside0.mk hR6
       have HB6 := Aside0.mk hb6
       have HBX6 := Aside0.mk hbx6
       clear hRC6 hR6 hbx6
       refine ⟨_, rfl, ?_⟩
       refine hK.out _ _ (hold10 hb6 hHeld) (fun hHeld => ?_)
       clear hK K
       refine norm_ (a' := ?_) ?_ ?_
       rotate_left
       ·show Act.put _ (some 68) _ = _
        simp only [Act.put, List.setIfInBounds_toArray, List.set_cons_zero, List.set_cons_succ, i64_w, i32_w]
        rfl
       refine last_ (i := 17) (N := none) #[true, true, true, true, true, true, true, true, true, true, true, true, true, true, true, true, true, true] rfl rfl (by kernel_rfl) (by decide) (fun K hK => ?_)
       refine skip_ (w1 := ?_) (by rfl) rfl ?_ ?_
       rotate_left
       ·go_simp
        rfl
       refine hK.out _ _ ?_
       clear hK K
       refine done_ (by kernel_rfl) ?_
       go_wp2_with fail
       have hE7 : EndAt W (set7 w6 bx (.slice E0 S2.stable.length g0) (.slice E1 S2.old.length g1) (.slice E2 S2.pend.length g2) (.slice E3 hl.length g3) (.bool S2.failed) (.int .i64 hu) (.slice E6 hs.length g6)) okk bx rb #[.slice E0 S2.stable.length g0, .slice E1 S2.old.length g1, .slice E2 S2.pend.length g2, .slice E3 hl.length g3, .bool S2.failed, .int .i64 hu, .slice E6 hs.length g6] u9 ((S.pend.take (j + 1)).filter fun a => !p a) S2 := by
        have hf : ∀ k, k ≠ bx → (set7 w6 bx (.slice E0 S2.stable.length g0) (.slice E1 S2.old.length g1) (.slice E2 S2.pend.length g2) (.slice E3 hl.length g3) (.bool S2.failed) (.int .i64 hu) (.slice E6 hs.length g6)).heap[k]? = w6.heap[k]? := fun k hk => set7_far w6 bx (.slice E0 S2.stable.length g0) (.slice E1 S2.old.length g1) (.slice E2 S2.pend.length g2) (.slice E3 hl.length g3) (.bool S2.failed) (.int .i64 hu) (.slice E6 hs.length g6) k hk
        have hbw : Below wr.heap.size wr w6 := HBD.out.trans (HB6.out.mono HBD.out.size)
        refine ⟨set7_below (HE.out.bel.trans (hbw.mono HE.out.bel.size)) LB.out.1 (.slice E0 S2.stable.length g0) (.slice E1 S2.old.length g1) (.slice E2 S2.pend.length g2) (.slice E3 hl.length g3) (.bool S2.failed) (.int .i64 hu) (.slice E6 hs.length g6), set7_blk HBX6.out (.slice E0 S2.stable.length g0) (.slice E1 S2.old.length g1) (.slice E2 S2.pend.length g2) (.slice E3 hl.length g3) (.bool S2.failed) (.int .i64 hu) (.slice E6 hs.length g6), (hf rb (fun e => LB.out.2.2.2.1 e.symm)).trans (blk_below HE.out.res hbw), ?_, ?_⟩
        ·have r1 := HR6.out.mono (ok' := fun k => okk k ∧ some k ≠ u9.ownBlock) (fun k hk hlt => hk.elim id (fun hk => by
          have h1 : wr.heap.size ≤ k := Nat.le_trans HBD.out.size hk
          exact ⟨HOKK.out k (by have := HWR.out; omega), fun e => by have := LOW.out k e.symm; omega⟩))
         exact r1.step (fun k hk _ => hf k (HOKO.out k hk.1).1)
        ·rw [HFL2.out]
         exact Kd.R_mono (Kd.R_step (Kd.R_types (Kd.R_below HE.out.row hbw) HBX6.out (by decide)) (fun k hk _ => hf k hk.2)) (fun k hk => hk.1)
       have HE7 := Aside0.mk hE7
       clear hE7 HE
       go_roundg (n2 - (j + 1))
       case measure => omega
       case rel => exact ⟨j + 1, i + 1, _, S2, _, rfl, by go_num, by go_num, by omega, Nat.le_refl _, by omega, HE7, HEF2, HFS2⟩
      ·skip
       obtain ⟨S2, hS2⟩ : ∃ S2, S2 = changeS q y S' := ⟨_, rfl⟩
       have HEF2 := Aside0.mk (show endF p nums (S.pend.take (j + 1)) (0, S) = (i + 1, S2) by rw [hS2]; have hz := HEND.out 0 HBB.out; rw [show dat.extract 0 0 ++ y.extract 0 y.size = y by simp] at hz; exact hz)
       have HFS2 := Aside0.mk (show Fine kk S2 by rw [hS2]; exact HFS.out.change q HQN.out _ hysz)
       have HCH2 := Aside0.mk (fun (w : World) (hb : Below wr.heap.size wr w) => HCH.out y w hb)
       rw [← hS2] at HCH2
       have s9 : ¬ 9223372036854775807 < y.size := by omega
       have s6 : ¬ 9223372036854775807 < min 0 dat.size + (y.size - 0) := by omega
       have s7 : 0 ≤ dat.size := by omega
       have s8 : 0 ≤ y.size := by omega
       have s7z : (0 : Int) ≤ (dat.size : Int) := by omega
       have s8z : (0 : Int) ≤ (y.size : Int) := by omega
       clear hS2 HEND HCH hysz hdsz
       go_wp2_with fail
       obtain ⟨w5, hw5⟩ : ∃ w5, w5 = wr.alloc (.cells #[.int .i64 a.f0, .int .i64 (q : Int), .string dat] 99) := ⟨_, rfl⟩
       have hb5 : Below wr.heap.size wr w5 := by rw [hw5]; exact below_alloc (Below.refl _ _) _
       obtain ⟨tb, htb⟩ : ∃ tb, tb = wr.heap.size := ⟨_, rfl⟩
       have t5 : w5.heap[tb]? = some (.cells #[.int .i64 a.f0, .int .i64 (q : Int), .string dat] 99 (0, 0)) := by rw [hw5, htb]; exact blk_new _ _
       rw [← hw5, ← htb]
       have hbx5 := blk_below HE.out.box hb5
       obtain ⟨p0, p1, p2, p3, p4, p5, p6⟩ := cells7 hbx5
       have t1 : w5.cell? ⟨tb, 1, none⟩ = some (.int .i64 (q : Int)) := by rw [blk_cell t5]; rfl
       have t2 : w5.cell? ⟨tb, 2, none⟩ = some (.string dat) := by rw [blk_cell t5]; rfl
       have ty : w5.cell? (adq.add q) = some (.string y) := (hb5.cell hyb).trans y0
       have HBD := Aside0.mk (show Below wr.heap.size wr w5.drew from hb5.drew)
       have LOW := Aside0.mk (show ∀ b, u9.ownBlock = some b → b < wr.heap.size from Kd.R_lt HE.out.row)
       have HWR := Aside0.mk (show W.heap.size + 1 + 1 ≤ wr.heap.size by have := blk_lt HE.out.res; have := RBE.out; omega)
       clear hw5 htb hb5 t5 hbx5 k0 k1 k2 k3 k4 k5 k6 h0 h1 h2 lbx hba hba0 hyb hyb0 y0
       refine start_ (n := 18) (S := fun w' => w'.cell? ⟨bx, 0, none⟩ = some (.slice (some adq) n0 d0) ∧ w'.cell? ⟨bx, 1, none⟩ = some (.slice B1 n1 d1) ∧ w'.cell? ⟨bx, 2, none⟩ = some (.slice (some ad) n2 d2) ∧ w'.cell? ⟨bx, 3, none⟩ = some (.slice B3 n3 d3) ∧ w'.cell? ⟨bx, 4, none⟩ = some (.bool fa) ∧ w'.cell? ⟨bx, 5, none⟩ = some (.int .i64 fu) ∧ w'.cell? ⟨bx, 6, none⟩ = some (.slice B6 n6 d6) ∧ w'.cell? ⟨tb, 1, none⟩ = some (.int .i64 (q : Int)) ∧ w'.cell? ⟨tb, 2, none⟩ = some (.string dat) ∧ w'.cell? (adq.add q) = some (.string y)) (ds := [17]) #[false, false, false, false, false, false, false, false, false, false, false, false, false, false, false, false, false, false] (by kernel_rfl) rfl rfl ⟨p0, p1, p2, p3, p4, p5, p6, t1, t2, ty⟩ (fun hHeld => ?_)
       refine pure_ (i := 1) (N := some 53) (v := ?_) (a' := ?_) #[false, true, false, false, false, false, false, false, false, false, false, false, false, false, false, false, false, false] rfl rfl (by kernel_rfl) (fun _ _ _ h => h) (Or.inl ⟨by rfl, ?_⟩) ?_ ?_
       rotate_left
       ·intro w'
        go_simp
        with_reducible rfl
       rotate_left
       ·simp only [Act.put, List.setIfInBounds_toArray, List.set_cons_zero, List.set_cons_succ, i64_w, i32_w]
        rfl
       refine pure_ (i := 3) (N := some 55) (v := ?_) (a' := ?_) #[false, true, false, true, false, false, false, false, false, false, false, false, false, false, false, false, false, false] rfl rfl (by kernel_rfl) (fun _ _ _ h => h) (Or.inl ⟨by rfl, ?_⟩) ?_ ?_
       rotate_left
       ·intro w'
        go_simp
        with_reducible rfl
       rotate_left
       ·simp only [Act.put, List.setIfInBounds_toArray, List.set_cons_zero, List.set_cons_succ, i64_w, i32_w]
        rfl
       refine pure_ (i := 5) (N := some 57) (v := ?_) (a' := ?_) #[false, true, false, true, false, true, false, false, false, false, false, false, false, false, false, false, false, false] rfl rfl (by kernel_rfl) (fun _ _ _ h => h) (Or.inl ⟨by rfl, ?_⟩) ?_ ?_
       rotate_left
       ·intro w'
        go_simp
        with_reducible rfl
       rotate_left
       ·simp only [Act.put, List.setIfInBounds_toArray, List.set_cons_zero, List.set_cons_succ, i64_w, i32_w]
        rfl
       refine pure_ (i := 7) (N := some 59) (v := ?_) (a' := ?_) #[false, true, false, true, false, true, false, true, false, false, false, false, false, false, false, false, false, false] rfl rfl (by kernel_rfl) (fun _ _ _ h => h) (Or.inl ⟨by rfl, ?_⟩) ?_ ?_
       rotate_left
       ·intro w'
        go_simp
        with_reducible rfl
       rotate_left
       ·simp only [Act.put, List.setIfInBounds_toArray, List.set_cons_zero, List.set_cons_succ, i64_w, i32_w]
        rfl
       refine pure_ (i := 9) (N := some 61) (v := ?_) (a' := ?_) #[false, true, false, true, false, true, false, true, false, true, false, false, false, false, false, false, false, false] rfl rfl (by kernel_rfl) (fun _ _ _ h => h) (Or.inl ⟨by rfl, ?_⟩) ?_ ?_
       rotate_left
       ·intro w'
        go_simp
        with_reducible rfl
       rotate_left
       ·simp only [Act.put, List.setIfInBounds_toArray, List.set_cons_zero, List.set_cons_succ, i64_w, i32_w]
        rfl
       refine pure_ (i := 13) (N := some 65) (v := ?_) (a' := ?_) #[false, true, false, true, false, true, false, true, false, true, false, false, false, true, false, false, false, false] rfl rfl (by kernel_rfl) (fun _ _ _ h => h) (Or.inl ⟨by rfl, ?_⟩) ?_ ?_
       rotate_left
       ·intro w'
        go_simp
        with_reducible rfl
       rotate_left
       ·simp only [Act.put, List.setIfInBounds_toArray, List.set_cons_zero, List.set_cons_succ, i64_w, i32_w]
        rfl
       refine take_ (i := 0) (N := some 52) (v := ?_) (a' := ?_) #[true, true, false, true, false, true, false, true, false, true, false, false, false, true, false, false, false, false] rfl rfl (by kernel_rfl) (fun _ _ _ h => h) (Or.inl ⟨by rfl, ?_⟩) hHeld ?_ ?_
       rotate_left
       ·rintro w' ⟨s0, s1, s2, s3, s4, s5, s6, s7, s8, s9⟩
        go_simp
        with_reducible rfl
       rotate_left
       ·simp only [Act.put, List.setIfInBounds_toArray, List.set_cons_zero, List.set_cons_succ, i64_w, i32_w]
        rfl
       refine take_ (i := 2) (N := some 54) (v := ?_) (a' := ?_) #[true, true, true, true, false, true, false, true, false, true, false, false, false, true, false, false, false, false] rfl rfl (by kernel_rfl) (fun _ _ _ h => h) (Or.inl ⟨by rfl, ?_⟩) hHeld ?_ ?_
       rotate_left
       ·rintro w' ⟨s0, s1, s2, s3, s4, s5, s6, s7, s8, s9⟩
        go_simp
        with_reducible rfl
       rotate_left
       ·simp only [Act.put, List.setIfInBounds_toArray, List.set_cons_zero, List.set_cons_succ, i64_w, i32_w]
        rfl
       refine take_ (i := 4) (N := some 56) (v := ?_) (a' := ?_) #[true, true, true, true, true, true, false, true, false, true, false, false, false, true, false, false, false, false] rfl rfl (by kernel_rfl) (fun _ _ _ h => h) (Or.inl ⟨by rfl, ?_⟩) hHeld ?_ ?_
       rotate_left
       ·rintro w' ⟨s0, s1, s2, s3, s4, s5, s6, s7, s8, s9⟩
        go_simp
        with_reducible rfl
       rotate_left
       ·simp only [Act.put, List.setIfInBounds_toArray, List.set_cons_zero, List.set_cons_succ, i64_w, i32_w]
        rfl
       refine pure_ (i := 6) (N := some 58) (v := ?_) (a' := ?_) #[true, true, true, true, true, true, true, true, false, true, false, false, false, true, false, false, false, false] rfl rfl (by kernel_rfl) (fun _ _ _ h => h) (Or.inl ⟨by rfl, ?_⟩) ?_ ?_
       rotate_left
       ·intro w'
        go_simp
        with_reducible rfl
       rotate_left
       ·simp only [Act.put, List.setIfInBounds_toArray, List.set_cons_zero, List.set_cons_succ, i64_w, i32_w]
        rfl
       refine take_ (i := 8) (N := some 60) (v := ?_) (a' := ?_) #[true, true, true, true, true, true, true, true, true, true, false, false, false, true, false, false, false, false] rfl rfl (by kernel_rfl) (fun _ _ _ h => h) (Or.inl ⟨by rfl, ?_⟩) hHeld ?_ ?_
       rotate_left
       ·rintro w' ⟨s0, s1, s2, s3, s4, s5, s6, s7, s8, s9⟩
        go_simp
        with_reducible rfl
       rotate_left
       ·simp only [Act.put, List.setIfInBounds_toArray, List.set_cons_zero, List.set_cons_succ, i64_w, i32_w]
        rfl
       refine take_ (i := 10) (N := some 62) (v := ?_) (a' := ?_) #[true, true, true, true, true, true, true, true, true, true, true, false, false, true, false, false, false, false] rfl rfl (by kernel_rfl) (fun _ _ _ h => h) (Or.inl ⟨by rfl, ?_⟩) hHeld ?_ ?_
       rotate_left
       ·rintro w' ⟨s0, s1, s2, s3, s4, s5, s6, s7, s8, s9⟩
        go_simp
        with_reducible rfl
       rotate_left
       ·simp only [Act.put, List.setIfInBounds_toArray, List.set_cons_zero, List.set_cons_succ, i64_w, i32_w]
        rfl
       refine pure_ (i := 11) (N := some 63) (v := ?_) (a' := ?_) #[true, true, true, true, true, true, true, true, true, true, true, true, false, true, false, false, false, false] rfl rfl (by kernel_rfl) (fun _ _ _ h => h) (Or.inl ⟨by rfl, ?_⟩) ?_ ?_
       rotate_left
       ·intro w'
        go_simp
        with_reducible rfl
       rotate_left
       ·simp only [Act.put, List.setIfInBounds_toArray, List.set_cons_zero, List.set_cons_succ, i64_w, i32_w]
        rfl
       refine take_ (i := 12) (N := some 64) (v := ?_) (a' := ?_) #[true, true, true, true, true, true, true, true, true, true, true, true, true, true, false, false, false, false] rfl rfl (by kernel_rfl) (fun _ _ _ h => h) (Or.inl ⟨by rfl, ?_⟩) hHeld ?_ ?_
       rotate_left
       ·rintro w' ⟨s0, s1, s2, s3, s4, s5, s6, s7, s8, s9⟩
        go_simp
        with_reducible rfl
       rotate_left
       ·simp only [Act.put, List.setIfInBounds_toArray, List.set_cons_zero, List.set_cons_succ, i64_w, i32_w]
        rfl
       refine pure_ (i := 14) (N := some 66) (v := ?_) (a' := ?_) #[true, true, true, true, true, true, true, true, true, true, true, true, true, true, true, false, false, false] rfl rfl (by kernel_rfl) (fun _ _ _ h => h) (Or.inl ⟨by rfl, ?_⟩) ?_ ?_
       rotate_left
       ·intro w'
        go_simp
        with_reducible rfl
       rotate_left
       ·simp only [Act.put, List.setIfInBounds_toArray, List.set_cons_zero, List.set_cons_succ, i64_w, i32_w]
        rfl
       refine pure_ (i := 15) (N := some 67) (v := ?_) (a' := ?_) #[true, true, true, true, true, true, true, true, true, true, true, true, true, true, true, true, false, false] rfl rfl (by kernel_rfl) (fun _ _ _ h => h) (Or.inl ⟨by rfl, ?_⟩) ?_ ?_
       rotate_left
       ·intro w'
        go_simp
        with_reducible rfl
       rotate_left
       ·simp only [Act.put, List.setIfInBounds_toArray, List.set_cons_zero, List.set_cons_succ, i64_w, i32_w]
        rfl
       refine one_ (i := 16) (N := some 68) #[true, true, true, true, true, true, true, true, true, true, true, true, true, true, true, true, true, false] rfl rfl (by kernel_rfl) (by decide) (fun K hK => ?_)
       refine goes_ Try.func57 (by kernel_rfl) rfl #[.agg #[.slice (some adq) n0 d0, .slice B1 n1 d1, .slice (some ad) n2 d2, .slice B3 n3 d3, .bool fa, .int .i64 fu, .slice B6 n6 d6], .int .i64 (q : Int), .string y] (by rfl) rfl rfl (by simp only [List.map_toArray, List.map_cons, List.map_nil]; rfl) ?_
       with_reducible refine (HCH2.out _ HBD.out).mono ?_
       rintro e w6 ⟨v6, rfl, hR6, hb6⟩
       obtain ⟨E0, E1, E2, E3, E6, g0, g1, g2, g3, g6, hl, hu, hs, hRC6⟩ := hR6.open_
       obtain rfl := hRC6.hv
       have hbx6 := blk_below (blk_below HE.out.box HBD.out) hb6
       obtain ⟨m0, m1, m2, m3, m4, m5, m6⟩ := cells7 hbx6
       obtain ⟨z0, z1, z2, z3, z4, z5, z6⟩ := froz7 hbx6
       have HR6 := Aside0.mk hR6
       have HB6 := Aside0.mk hb6
       have HBX6 := Aside0.mk hbx6
       clear hRC6 hR6 hbx6
       refine ⟨_, rfl, ?_⟩
       refine hK.out _ _ (hold10 hb6 hHeld) (fun hHeld => ?_)
       clear hK K
       refine norm_ (a' := ?_) ?_ ?_
       rotate_left
       ·show Act.put _ (some 68) _ = _
        simp only [Act.put, List.setIfInBounds_toArray, List.set_cons_zero, List.set_cons_succ, i64_w, i32_w]
        rfl
       refine last_ (i := 17) (N := none) #[true, true, true, true, true, true, true, true, true, true, true, true, true, true, true, true, true, true] rfl rfl (by kernel_rfl) (by decide) (fun K hK => ?_)
       refine skip_ (w1 := ?_) (by rfl) rfl ?_ ?_
       rotate_left
       ·go_simp
        rfl
       refine hK.out _ _ ?_
       clear hK K
       refine done_ (by kernel_rfl) ?_
       go_wp2_with fail
       have hE7 : EndAt W (set7 w6 bx (.slice E0 S2.stable.length g0) (.slice E1 S2.old.length g1) (.slice E2 S2.pend.length g2) (.slice E3 hl.length g3) (.bool S2.failed) (.int .i64 hu) (.slice E6 hs.length g6)) okk bx rb #[.slice E0 S2.stable.length g0, .slice E1 S2.old.length g1, .slice E2 S2.pend.length g2, .slice E3 hl.length g3, .bool S2.failed, .int .i64 hu, .slice E6 hs.length g6] u9 ((S.pend.take (j + 1)).filter fun a => !p a) S2 := by
        have hf : ∀ k, k ≠ bx → (set7 w6 bx (.slice E0 S2.stable.length g0) (.slice E1 S2.old.length g1) (.slice E2 S2.pend.length g2) (.slice E3 hl.length g3) (.bool S2.failed) (.int .i64 hu) (.slice E6 hs.length g6)).heap[k]? = w6.heap[k]? := fun k hk => set7_far w6 bx (.slice E0 S2.stable.length g0) (.slice E1 S2.old.length g1) (.slice E2 S2.pend.length g2) (.slice E3 hl.length g3) (.bool S2.failed) (.int .i64 hu) (.slice E6 hs.length g6) k hk
        have hbw : Below wr.heap.size wr w6 := HBD.out.trans (HB6.out.mono HBD.out.size)
        refine ⟨set7_below (HE.out.bel.trans (hbw.mono HE.out.bel.size)) LB.out.1 (.slice E0 S2.stable.length g0) (.slice E1 S2.old.length g1) (.slice E2 S2.pend.length g2) (.slice E3 hl.length g3) (.bool S2.failed) (.int .i64 hu) (.slice E6 hs.length g6), set7_blk HBX6.out (.slice E0 S2.stable.length g0) (.slice E1 S2.old.length g1) (.slice E2 S2.pend.length g2) (.slice E3 hl.length g3) (.bool S2.failed) (.int .i64 hu) (.slice E6 hs.length g6), (hf rb (fun e => LB.out.2.2.2.1 e.symm)).trans (blk_below HE.out.res hbw), ?_, ?_⟩
        ·have r1 := HR6.out.mono (ok' := fun k => okk k ∧ some k ≠ u9.ownBlock) (fun k hk hlt => hk.elim id (fun hk => by
          have h1 : wr.heap.size ≤ k := Nat.le_trans HBD.out.size hk
          exact ⟨HOKK.out k (by have := HWR.out; omega), fun e => by have := LOW.out k e.symm; omega⟩))
         exact r1.step (fun k hk _ => hf k (HOKO.out k hk.1).1)
        ·rw [HFL2.out]
         exact Kd.R_mono (Kd.R_step (Kd.R_types (Kd.R_below HE.out.row hbw) HBX6.out (by decide)) (fun k hk _ => hf k hk.2)) (fun k hk => hk.1)
       have HE7 := Aside0.mk hE7
       clear hE7 HE
       go_roundg (n2 - (j + 1))
       case measure => omega
       case rel => exact ⟨j + 1, i + 1, _, S2, _, rfl, by go_num, by go_num, by omega, Nat.le_refl _, by omega, HE7, HEF2, HFS2⟩
  ·have hjn : j = n2 := by omega
   have HJN := Aside0.mk hjn
   obtain ⟨A9, c9, hv9⟩ := Kd.R_slice HE.out.row
   subst hv9
   have fbr := HE.out.res
   have rb0 : wr.cell? ⟨rb, 0, none⟩ = some (.slice none 0 0) := by rw [blk_cell fbr]; rfl
   have rz0 : wr.frozen? ⟨rb, 0, none⟩ = false := blk_frozen fbr 0
   have rb1 : wr.cell? ⟨rb, 1, none⟩ = some (.slice none 0 0) := by rw [blk_cell fbr]; rfl
   have rz1 : wr.frozen? ⟨rb, 1, none⟩ = false := blk_frozen fbr 1
   have rb2 : wr.cell? ⟨rb, 2, none⟩ = some (.slice none 0 0) := by rw [blk_cell fbr]; rfl
   have rz2 : wr.frozen? ⟨rb, 2, none⟩ = false := blk_frozen fbr 2
   have rb3 : wr.cell? ⟨rb, 3, none⟩ = some (.slice none 0 0) := by rw [blk_cell fbr]; rfl
   have rz3 : wr.frozen? ⟨rb, 3, none⟩ = false := blk_frozen fbr 3
   have rb4 : wr.cell? ⟨rb, 4, none⟩ = some (.bool false) := by rw [blk_cell fbr]; rfl
   have rz4 : wr.frozen? ⟨rb, 4, none⟩ = false := blk_frozen fbr 4
   have rb5 : wr.cell? ⟨rb, 5, none⟩ = some (.int .i64 0) := by rw [blk_cell fbr]; rfl
   have rz5 : wr.frozen? ⟨rb, 5, none⟩ = false := blk_frozen fbr 5
   have rb6 : wr.cell? ⟨rb, 6, none⟩ = some (.slice none 0 0) := by rw [blk_cell fbr]; rfl
   have rz6 : wr.frozen? ⟨rb, 6, none⟩ = false := blk_frozen fbr 6
   have zb2 : wr.frozen? ⟨bx, 2, none⟩ = false := blk_frozen HE.out.box 2
   have nb1 : bx ≠ rb := LB.out.2.2.2.1
   have nb2 : rb ≠ bx := fun e => nb1 e.symm
   obtain ⟨n9, hn9⟩ : ∃ n9, n9 = ((S.pend.take j).filter fun a => !p a).length := ⟨_, rfl⟩
   have HN9 := Aside0.mk hn9
   rw [← hn9]
   clear hC2 fbr hn9 hjn hgg hij
   go_wp2_with fail
   have hB1 : (wr.setCell ⟨bx, 2, none⟩ (.slice A9 n9 c9)).heap[rb]? = some (.cells #[.slice none 0 0, .slice none 0 0, .slice none 0 0, .slice none 0 0, .bool false, .int .i64 0, .slice none 0 0] 31 (0, 0)) := (Below.heap_setCell _ _ _ _ nb2).trans HE.out.res
   refine bodyPost_ret (results_c rfl _ _ rb 31 #[.slice B0 n0 d0, .slice B1 n1 d1, .slice A9 n9 c9, .slice B3 n3 d3, .bool fa, .int .i64 fu, .slice B6 n6 d6] (0, 0) _ rfl (set7_blk hB1 (.slice B0 n0 d0) (.slice B1 n1 d1) (.slice A9 n9 c9) (.slice B3 n3 d3) (.bool fa) (.int .i64 fu) (.slice B6 n6 d6)) Try.underlying31 rfl (by kernel_rfl)) rfl ?_
   refine ⟨_, rfl, ?_, set7_below (HE.out.bel.setCell (p := ⟨bx, 2, none⟩) LB.out.1 _) LB.out.2.1 (.slice B0 n0 d0) (.slice B1 n1 d1) (.slice A9 n9 c9) (.slice B3 n3 d3) (.bool fa) (.int .i64 fu) (.slice B6 n6 d6)⟩
   show RefIs (set7 (wr.setCell ⟨bx, 2, none⟩ (.slice A9 n9 c9)) rb (.slice B0 n0 d0) (.slice B1 n1 d1) (.slice A9 n9 c9) (.slice B3 n3 d3) (.bool fa) (.int .i64 fu) (.slice B6 n6 d6)) _ _ _
   obtain ⟨w2, hw2⟩ : ∃ w2, w2 = set7 (wr.setCell ⟨bx, 2, none⟩ (.slice A9 n9 c9)) rb (.slice B0 n0 d0) (.slice B1 n1 d1) (.slice A9 n9 c9) (.slice B3 n3 d3) (.bool fa) (.int .i64 fu) (.slice B6 n6 d6) := ⟨_, rfl⟩
   rw [← hw2]
   have hfar : ∀ k, k ≠ bx → k ≠ rb → w2.heap[k]? = wr.heap[k]? := fun k h1 h2 => by rw [hw2]; exact (set7_far _ rb (.slice B0 n0 d0) (.slice B1 n1 d1) (.slice A9 n9 c9) (.slice B3 n3 d3) (.bool fa) (.int .i64 fu) (.slice B6 n6 d6) k h2).trans (Below.heap_setCell _ _ _ _ h1)
   obtain ⟨gl, fu', sw, e4, e5, hA⟩ := HE.out.ref.agg
   injection e4 with e4
   injection e5 with _ e5
   subst e5
   have hS : finishS p nums S = { S' with pend := S.pend.filter fun a => !p a } := by
    unfold finishS
    have h := HEF.out
    rw [List.take_of_length_le (by have := HJN.out; have := EQ2.out; omega)] at h
    rw [h]
   have hx9 : ((S.pend.take j).filter fun a => !p a) = S.pend.filter fun a => !p a := by rw [List.take_of_length_le (by have := HJN.out; have := EQ2.out; omega)]
   have mv : ∀ {α : Type} {d : Kd α} {e : Nat} {u : Value} {xs : List α}, Kd.V d e wr 0 (fun k => okk k ∧ some k ≠ (Value.slice A9 ((S.pend.take j).filter fun a => !p a).length c9).ownBlock) u xs → Kd.V d e w2 0 (fun k => ok k ∨ W.heap.size ≤ k) u xs := fun hu =>
    Kd.V_mono (Kd.V_step hu (fun k hk _ => hfar k (HOKO.out k hk.1).1 (HOKO.out k hk.1).2.1)) (fun k hk => (HOKO.out k hk.1).2.2)
   have hrow := Kd.R_V (base' := 0) (Kd.R_step (Kd.R_types (Kd.R_types HE.out.row HE.out.box (by decide)) HE.out.res (by decide)) (fun k hk _ => hfar k hk.1.2 hk.2))
   have hrow2 := Kd.V_mono hrow (ok' := fun k => ok k ∨ W.heap.size ≤ k) (fun k hk => Or.inr (by have h1 : W.heap.size + 1 + 1 ≤ k := hk.1.1; omega))
   rw [← HN9.out, hx9] at hrow2
   rw [hS]
   exact ⟨_, _, _, _, _, gl, fu, sw, { hv := by rw [e4], h0 := mv hA.h0, h1 := mv hA.h1, h2 := hrow2, h3 := mv hA.h3, h6 := mv hA.h6, fl5 := hA.fl5, fok := hA.fok, uok := hA.uok }⟩
end Go.Proofs.Ytflajmgichdhhaa.PG
namespace Go.Proofs.Ytflajmgichdhhaa.PG
open Go.RowKit Go.Proofs.YtflajmgichdhhaaW.PrintWords Go.Proofs.YtflajmgichdhhaaW.PrintLast Go.Proofs.YtflajmgichdhhaaW.PrintMore
set_option linter.unusedVariables false
set_option linter.unusedSimpArgs false
theorem results_tct {P : Program} {fn : Func} {p u v : Tmp} {ty : TypeId} (h : fn.results = #[.tmp u, .cell p ty, .tmp v]) (tmps : Array Value) (w : World) (g : Nat) (t : TypeId) (cs : Array Value) (fr : Nat × Nat) (d : TypeDesc)
  (hp : tmps.getD p undef = .pointer (some ⟨g, 0, none⟩)) (hg : w.heap[g]? = some (.cells cs t fr))
  (hu : P.underlying ty = some d) (hd : (match d with | .struct _ | .array _ _ => true | _ => false) = true) (hi : (P.info? ty).map (·.size) = some cs.size) :
  (results fn tmps).run P w = .ok (.tuple #[tmps.getD u undef, .agg cs, tmps.getD v undef]) w := by
 have hp' : tmps[p]?.getD undef = .pointer (some ⟨g, 0, none⟩) := by simpa using hp
 simp [results, h, hp', asAddr, run_loadVar_row w g t ty cs fr d hg hu hd hi]
def BeginPost (n : Nat) (W : World) (e : Ending) (W' : World) : Prop := ∃ L F v, e = .returned (.tuple #[.pointer (some ⟨L.g, 0, none⟩), v, .bool true]) ∧ DevIs W' W.heap.size L F (newS n) ∧ RefIs W' (fun k => ¬ F k) v (newS n) ∧ Below W.heap.size W W'
set_option maxHeartbeats 2000000 in
set_option maxRecDepth 100000 in
theorem begin_calls (W : World) (c : Int) (h0 : 0 ≤ c) (h1 : c < 256) (n : Nat) (hn : 1 + c % 6 = (n : Int)) :
  Calls Try.prog 12 #[.int .u8 c] W fun e W' => BeginPost n W e W' := by
 have hn1 : 1 ≤ n := by omega
 have hn2 : n ≤ 1155 := by omega
 have HN := Aside0.mk (fun W => new_calls W n hn1 hn2)
 have HR := Aside0.mk (fun W => rnew_calls W n hn1 hn2)
 go_enter Try.func12, Try.ntmps12
 go_wp2_with fail
 obtain ⟨rb, hrb⟩ : ∃ rb, rb = W.heap.size := ⟨_, rfl⟩
 obtain ⟨W1, hW1⟩ : ∃ W1, W1 = W.alloc (.cells #[.slice none 0 0, .slice none 0 0, .slice none 0 0, .slice none 0 0, .bool false, .int .i64 0, .slice none 0 0] 31) := ⟨_, rfl⟩
 have hx1 : W1.heap[rb]? = some (.cells #[.slice none 0 0, .slice none 0 0, .slice none 0 0, .slice none 0 0, .bool false, .int .i64 0, .slice none 0 0] 31 (0, 0)) := by rw [hW1, hrb]; exact blk_new _ _
 have hb1 : Below W.heap.size W W1 := by rw [hW1]; exact below_alloc (Below.refl _ _) _
 have hlr : W.heap.size ≤ rb := by omega
 have hle1 : W.heap.size ≤ W1.heap.size := hb1.size
 rw [← hW1, ← hrb]
 have HX1 := Aside0.mk hx1
 have HB1 := Aside0.mk hb1
 clear hW1 hrb hx1 hb1
 refine (HN.out W1).mono ?_
 rintro e W2 ⟨L, F, rfl, hI2, hb2⟩
 have HI2 := Aside0.mk hI2
 have HX2 := Aside0.mk (blk_below HX1.out hb2)
 have HB2 := Aside0.mk (HB1.out.trans (hb2.mono HB1.out.size))
 have HNR := Aside0.mk (show ¬ F rb from fun z => by have := (hI2.range _ z).1; have := blk_lt HX1.out; omega)
 have hrb2 : rb < W2.heap.size := blk_lt HX2.out
 clear hI2 hb2 HB1 HX1
 go_wp2_with fail
 refine (HR.out W2).mono ?_
 rintro e W3 ⟨v, rfl, hR3, hb3⟩
 obtain ⟨v0, v1, v2, v3, v6, fl, fu, sv, hA3⟩ := hR3
 obtain rfl := hA3.hv
 have HA3 := Aside0.mk hA3
 have HI3 := Aside0.mk (HI2.out.below hb3)
 have HX3 := Aside0.mk (blk_below HX2.out hb3)
 have HB3 := Aside0.mk (HB2.out.trans (hb3.mono HB2.out.size))
 have HFN := Aside0.mk (show ∀ k, W2.heap.size ≤ k → ¬ F k from fun k hk z => by have := (HI2.out.range _ z).2; omega)
 obtain ⟨A0, c0, e0, _⟩ := hA3.h0
 obtain ⟨A1, c1, e1, _⟩ := hA3.h1
 obtain ⟨A2, c2, e2, _⟩ := hA3.h2
 obtain ⟨A3, c3, e3, _⟩ := hA3.h3
 obtain ⟨A6, c6, e6, _⟩ := hA3.h6
 subst e0 e1 e2 e3 e6
 clear hA3 hb3 HI2 HX2 HB2
 obtain ⟨fa, hfa⟩ : ∃ fa, fa = (newS n).failed := ⟨_, rfl⟩
 rw [← hfa]
 have HFA := Aside0.mk hfa
 clear hfa
 go_wp2_with fail
 obtain ⟨bb, hbb⟩ : ∃ bb, bb = W3.heap.size := ⟨_, rfl⟩
 obtain ⟨W4, hW4⟩ : ∃ W4, W4 = W3.alloc (.cells #[.slice A0 (newS n).stable.length c0, .slice A1 (newS n).old.length c1, .slice A2 (newS n).pend.length c2, .slice A3 fl.length c3, .bool fa, .int .i64 fu, .slice A6 sv.length c6] 31) := ⟨_, rfl⟩
 have hb4 : Below W3.heap.size W3 W4 := by rw [hW4]; exact below_alloc (Below.refl _ _) _
 have hx4 : W4.heap[bb]? = some (.cells #[.slice A0 (newS n).stable.length c0, .slice A1 (newS n).old.length c1, .slice A2 (newS n).pend.length c2, .slice A3 fl.length c3, .bool fa, .int .i64 fu, .slice A6 sv.length c6] 31 (0, 0)) := by rw [hW4, hbb]; exact blk_new _ _
 rw [← hW4, ← hbb]
 have hr4 := blk_below HX3.out hb4
 obtain ⟨k0, k1, k2, k3, k4, k5, k6⟩ := cells7 hx4
 have r0 : W4.cell? ⟨rb, 0, none⟩ = some (.slice none 0 0) := by rw [blk_cell hr4]; rfl
 have f0 := blk_frozen hr4 0
 have r1 : W4.cell? ⟨rb, 1, none⟩ = some (.slice none 0 0) := by rw [blk_cell hr4]; rfl
 have f1 := blk_frozen hr4 1
 have r2 : W4.cell? ⟨rb, 2, none⟩ = some (.slice none 0 0) := by rw [blk_cell hr4]; rfl
 have f2 := blk_frozen hr4 2
 have r3 : W4.cell? ⟨rb, 3, none⟩ = some (.slice none 0 0) := by rw [blk_cell hr4]; rfl
 have f3 := blk_frozen hr4 3
 have r4 : W4.cell? ⟨rb, 4, none⟩ = some (.bool false) := by rw [blk_cell hr4]; rfl
 have f4 := blk_frozen hr4 4
 have r5 : W4.cell? ⟨rb, 5, none⟩ = some (.int .i64 0) := by rw [blk_cell hr4]; rfl
 have f5 := blk_frozen hr4 5
 have r6 : W4.cell? ⟨rb, 6, none⟩ = some (.slice none 0 0) := by rw [blk_cell hr4]; rfl
 have f6 := blk_frozen hr4 6
 have ne1 : bb ≠ rb := by have := blk_lt HX3.out; omega
 have ne2 : rb ≠ bb := fun e => ne1 e.symm
 have HB4 := Aside0.mk hb4
 have HR4 := Aside0.mk hr4
 clear hW4 hbb hb4 hx4 hr4
 go_region
 go_wp2_with fail
 have hbk := set7_blk HR4.out (.slice A0 (newS n).stable.length c0) (.slice A1 (newS n).old.length c1) (.slice A2 (newS n).pend.length c2) (.slice A3 fl.length c3) (.bool fa) (.int .i64 fu) (.slice A6 sv.length c6)
 have hfar := set7_far W4 rb (.slice A0 (newS n).stable.length c0) (.slice A1 (newS n).old.length c1) (.slice A2 (newS n).pend.length c2) (.slice A3 fl.length c3) (.bool fa) (.int .i64 fu) (.slice A6 sv.length c6)
 have hsz := set7_size W4 rb (.slice A0 (newS n).stable.length c0) (.slice A1 (newS n).old.length c1) (.slice A2 (newS n).pend.length c2) (.slice A3 fl.length c3) (.bool fa) (.int .i64 fu) (.slice A6 sv.length c6)
 obtain ⟨W5, hW5⟩ : ∃ W5, W5 = set7 W4 rb (.slice A0 (newS n).stable.length c0) (.slice A1 (newS n).old.length c1) (.slice A2 (newS n).pend.length c2) (.slice A3 fl.length c3) (.bool fa) (.int .i64 fu) (.slice A6 sv.length c6) := ⟨_, rfl⟩
 have hbl := set7_below (HB3.out.trans (HB4.out.mono HB3.out.size)) hlr (.slice A0 (newS n).stable.length c0) (.slice A1 (newS n).old.length c1) (.slice A2 (newS n).pend.length c2) (.slice A3 fl.length c3) (.bool fa) (.int .i64 fu) (.slice A6 sv.length c6)
 rw [← hW5] at hbk hfar hbl hsz
 rw [show (((((((W4.setCell ⟨rb, 0, none⟩ (.slice A0 (newS n).stable.length c0)).setCell ⟨rb, 1, none⟩ (.slice A1 (newS n).old.length c1)).setCell ⟨rb, 2, none⟩ (.slice A2 (newS n).pend.length c2)).setCell ⟨rb, 3, none⟩ (.slice A3 fl.length c3)).setCell ⟨rb, 4, none⟩ (.bool fa)).setCell ⟨rb, 5, none⟩ (.int .i64 fu)).setCell ⟨rb, 6, none⟩ (.slice A6 sv.length c6)) = W5 from hW5.symm]
 have hbk' : W5.drew.heap[rb]? = some (.cells #[.slice A0 (newS n).stable.length c0, .slice A1 (newS n).old.length c1, .slice A2 (newS n).pend.length c2, .slice A3 fl.length c3, .bool fa, .int .i64 fu, .slice A6 sv.length c6] 31 (0, 0)) := hbk
 refine bodyPost_ret (results_tct rfl _ _ rb 31 #[.slice A0 (newS n).stable.length c0, .slice A1 (newS n).old.length c1, .slice A2 (newS n).pend.length c2, .slice A3 fl.length c3, .bool fa, .int .i64 fu, .slice A6 sv.length c6] (0, 0) _ rfl hbk' Try.underlying31 rfl (by kernel_rfl)) rfl ?_
 have hI5 : DevIs W5.drew W.heap.size L F (newS n) := ((HI3.out.below HB4.out).lower hle1).move (fun k hk => hfar k (fun e => HNR.out (e ▸ hk))) (by show W4.heap.size ≤ W5.heap.size; omega)
 have hR5 : RefIs W5.drew (fun k => ¬ F k) (.agg #[.slice A0 (newS n).stable.length c0, .slice A1 (newS n).old.length c1, .slice A2 (newS n).pend.length c2, .slice A3 fl.length c3, .bool fa, .int .i64 fu, .slice A6 sv.length c6]) (newS n) := by
  have h0 : RefIs W3 (fun k => W2.heap.size ≤ k) (.agg #[.slice A0 (newS n).stable.length c0, .slice A1 (newS n).old.length c1, .slice A2 (newS n).pend.length c2, .slice A3 fl.length c3, .bool fa, .int .i64 fu, .slice A6 sv.length c6]) (newS n) := ⟨_, _, _, _, _, fl, fu, sv, { HA3.out with hv := by rw [HFA.out] }⟩
  refine ((h0.below HB4.out).step (W1 := W5.drew) (fun k hk _ => hfar k (fun e => by omega))).mono (fun k hk _ => HFN.out k hk)
 exact ⟨L, F, _, rfl, hI5, hR5, hbl.drew⟩
end Go.Proofs.Ytflajmgichdhhaa.PG
namespace Go.Proofs.Ytflajmgichdhhaa.PG
open Go.RowKit Go.Proofs.YtflajmgichdhhaaW.PrintWords Go.Proofs.YtflajmgichdhhaaW.PrintLast Go.Proofs.YtflajmgichdhhaaW.PrintMore
set_option linter.unusedVariables false
set_option linter.unusedSimpArgs false
def Inv (W0 : World) (L : Lay) (K : List (Nat × Obj)) (S : DevS) (W1 : World) : Prop := ∃ F, DevIs W1 W0.heap.size L F S ∧ (∀ p ∈ K, W1.heap[p.1]? = some p.2 ∧ ¬ F p.1) ∧ Below W0.heap.size W0 W1
section
variable {W0 W1 W2 : World} {L : Lay} {K : List (Nat × Obj)} {S S' : DevS} {k : Nat}
theorem Inv.bel (h : Inv W0 L K S W1) : Below W0.heap.size W0 W1 := by obtain ⟨F, _, _, h⟩ := h; exact h
theorem Inv.below (h : Inv W0 L K S W1) (hb : Below W1.heap.size W1 W2) : Inv W0 L K S W2 := by
 obtain ⟨F, h1, h2, h3⟩ := h
 exact ⟨F, h1.below hb, fun p hp => ⟨blk_below (h2 p hp).1 hb, (h2 p hp).2⟩, h3.trans (hb.mono h3.size)⟩
theorem Inv.blk (h : Inv W0 L K S W1) {b : Nat} {o : Obj} (hp : (b, o) ∈ K) : W1.heap[b]? = some o := by
 obtain ⟨F, _, h2, _⟩ := h
 exact (h2 _ hp).1
theorem Inv.add (h : Inv W0 L K S W1) (o : Obj) : Inv W0 L ((W1.heap.size, o) :: K) S (W1.alloc o) := by
 obtain ⟨F, h1, h2, h3⟩ := h
 have hb := below_alloc (Below.refl W1.heap.size W1) o
 refine ⟨F, h1.below hb, fun p hp => ?_, h3.trans (hb.mono h3.size)⟩
 rcases List.mem_cons.1 hp with hp | hp
 ·rw [hp]
  exact ⟨blk_new _ _, fun z => by have := (h1.range _ z).2; simp at this⟩
 ·exact ⟨blk_below (h2 p hp).1 hb, (h2 p hp).2⟩
theorem Inv.start {L : Lay} {F : Nat → Prop} (h : DevIs W1 W0.heap.size L F S) (hb : Below W0.heap.size W0 W1) : Inv W0 L [] S W1 := ⟨F, h, (fun p hp => by cases hp), hb⟩
theorem Inv.post {P : Program} {f : FuncId} {args : Array Value} {E : Ending} (h : Inv W0 L K S W1) (hc : ∀ F, DevIs W1 W0.heap.size L F S → Calls P f args W1 fun e W' => e = E ∧ DevPost W0.heap.size L F S' W1 W') :
  Calls P f args W1 fun e W' => e = E ∧ Inv W0 L K S' W' := by
 obtain ⟨F, h1, h2, h3⟩ := h
 refine (hc F h1).mono ?_
 rintro e W' ⟨he, hpo⟩
 obtain ⟨F', g1, g2, g3, _⟩ := hpo.keep
 exact ⟨he, F', g1, fun p hp => g2 _ _ (h2 p hp).1 (h2 p hp).2, h3.trans g3⟩
theorem Inv.write (h : Inv W0 L K S W1) (hf : Fine k S) (hk : k ≤ 1000000) (hsl : S.surv.length ≤ 4611686018427387904) (sys ep sec : Int) (d : ByteArray) {r : Int} (hr : writeS S sys ep sec d = (r, S')) :
  Calls Try.prog 20 #[.pointer (some ⟨L.g, 0, none⟩), .agg #[.int .i64 sys, .int .i64 ep], .int .i64 sec, .string d] W1 fun e W' => e = .returned (.int .i64 r) ∧ Inv W0 L K S' W' :=
 h.post (fun F hI => by have := write_calls hI hf hk hsl sys ep sec d; rw [hr] at this; exact this)
theorem Inv.sync (h : Inv W0 L K S W1) (hf : Fine k S) (hk : k ≤ 1000000) (hsl : S.surv.length ≤ 4611686018427387904) (sys ep : Int) {r : Int} (hr : syncS S sys ep = (r, S')) :
  Calls Try.prog 21 #[.pointer (some ⟨L.g, 0, none⟩), .agg #[.int .i64 sys, .int .i64 ep]] W1 fun e W' => e = .returned (.int .i64 r) ∧ Inv W0 L K S' W' :=
 h.post (fun F hI => by have := sync_calls hI hf hk hsl sys ep; rw [hr] at this; exact this)
theorem Inv.fence (h : Inv W0 L K S W1) (sys ep : Int) :
  Calls Try.prog 27 #[.pointer (some ⟨L.g, 0, none⟩), .int .i64 sys, .int .i64 ep] W1 fun e W' => e = .returned (.tuple #[]) ∧ Inv W0 L K (fenceS S sys ep) W' :=
 h.post (fun F hI => fence_calls hI sys ep)
theorem Inv.ret (h : Inv W0 L K S W1) (hf : Fine k S) (sec back : Int) {r : Int} (hr : returnS S sec back = (r, S')) :
  Calls Try.prog 26 #[.pointer (some ⟨L.g, 0, none⟩), .int .i64 sec, .int .i64 back] W1 fun e W' => e = .returned (.int .i64 r) ∧ Inv W0 L K S' W' :=
 h.post (fun F hI => by have := return_calls hI hf sec back; rw [hr] at this; exact this)
theorem Inv.pend (h : Inv W0 L K S W1) (hpl : S.pend.length ≤ 1000000) (i : Int) {n : Nat} (hn : pendN S i = n) :
  Calls Try.prog 24 #[.pointer (some ⟨L.g, 0, none⟩), .int .i64 i] W1 fun e W' => e = .returned (.int .i64 (n : Int)) ∧ Inv W0 L K S W' := by
 have h' := h
 obtain ⟨F, h1, _⟩ := h
 have := pendI h1 hpl i
 rw [hn] at this
 refine this.mono ?_
 rintro e W' ⟨he, hb⟩
 exact ⟨he, h'.below hb⟩
end
end Go.Proofs.Ytflajmgichdhhaa.PG
namespace Go.Proofs.Ytflajmgichdhhaa.PG
open Go.RowKit Go.Proofs.YtflajmgichdhhaaW.PrintWords Go.Proofs.YtflajmgichdhhaaW.PrintLast Go.Proofs.YtflajmgichdhhaaW.PrintMore
set_option linter.unusedVariables false
set_option linter.unusedSimpArgs false
attribute [local go_sem] max2_int min2_int max_two min_two
theorem nil29 (w : World) (n c : Nat) : (binOp .eql 29 (.slice none n c) (.slice none 0 0)).run Try.prog w = .ok (.bool true) w := by kernel_rfl
theorem some29 (w : World) (ad : Addr) (n c : Nat) : (binOp .eql 29 (.slice (some ad) n c) (.slice none 0 0)).run Try.prog w = .ok (.bool false) w := by kernel_rfl
set_option maxRecDepth 100000 in
theorem clone46 (W : World) (A : Option Addr) (c : Nat) (l : List Int) (hC : Kd.C (Kd.int .i64) W A l.length l) (hl : l.length ≤ 1000000) :
  Calls Try.prog 46 #[.slice A l.length c] W fun e W' => ∃ v, e = .returned v ∧ Kd.R (Kd.int .i64) 3 W' W.heap.size (fun k => W.heap.size ≤ k) v l ∧ Below W.heap.size W W' := by
 cases A with
 | none =>
  have h0 : l = [] := by
   rcases Nat.eq_zero_or_pos l.length with h | h
   ·exact List.eq_nil_of_length_eq_zero h
   ·obtain ⟨ad, e, _⟩ := hC.2.2 h
    cases e
  subst h0
  have hn := nil29
  clear hC
  go_enter Try.func46, Try.ntmps46
  go_wp2_with fail
  go_ret
  exact ⟨_, rfl, Kd.R_nil _ _ _ _ _, Below.refl _ _⟩
 | some ad =>
  have hs := some29
  have HC := Aside0.mk hC
  clear hC
  go_enter Try.func46, Try.ntmps46
  go_wp2_with (at_builtin; with_reducible refine stopHere ?_)
  refine ⟨?_⟩
  have hO : Kd.R (Kd.int .i64) 3 (W.alloc (.cells #[] 3)) W.heap.size (fun k => W.heap.size ≤ k) (.slice (some ⟨W.heap.size, 0, none⟩) 0 0) [] := by
   refine ⟨fun k hk => ?_, [], ⟨rfl, Or.inr ⟨W.heap.size, 0, #[], rfl, Nat.le_refl _, blk_new _ _, Nat.le_refl _, Nat.zero_le _, rfl, rfl⟩⟩, Reps.none _ _⟩
   simp [Value.ownBlock] at hk
   omega
  refine Kd.R_append_rows (Kd.int .i64) (w0 := W) W.heap.size rfl (.tmp 5) (.tmp 6) 29 3 (.int .i64 0) 8 rfl Try.underlying29 info3 rfl (by decide) (by omega) _ [] l (some ad) l.length c (fun k => W.heap.size ≤ k) (fun _ => False) rfl rfl hO (Kd.C_alloc HC.out _) (fun _ _ h => h) (fun _ h => h.elim) (fun k hk => by simp at hk; omega) (below_alloc (Below.refl _ _) _) (by simp) (by simp; omega) ?_
  intro v1 w1 hR hb hg hat
  have HR := Aside0.mk hR
  have HB := Aside0.mk hb
  clear hR hb hg hat hO
  go_wp2_with fail
  go_ret
  exact ⟨v1, rfl, HR.out, HB.out⟩
theorem DevAt.more {W : World} {B : Nat} {L : Lay} {vs : List Value} {pv uv : Value} {m : Ents} {F F' : Nat → Prop} {S : DevS} (h : DevAt W B L vs pv uv m F S) (h1 : ∀ k, F k → F' k) (h2 : ∀ k, F' k → B ≤ k ∧ k < W.heap.size) : DevAt W B L vs pv uv m F' S :=
  { h with
    hv := fun i v x a b => Kd.V_mono (h.hv i v x a b) (fun k hk => ⟨h1 k hk.1, hk.2⟩)
    hp := Kd.R_mono h.hp h1
    hu := Kd.V_mono h.hu (fun k hk => ⟨h1 k hk.1, hk.2⟩)
    hF := ⟨h1 _ h.hF.1, h1 _ h.hF.2.1, h1 _ h.hF.2.2.1, h1 _ h.hF.2.2.2⟩
    hr := h2 }
theorem DevAt.arm {W0 W : World} {B : Nat} {L : Lay} {vs : List Value} {pv uv v : Value} {m : Ents} {F : Nat → Prop} {S : DevS} (h0 : DevAt W0 B L vs pv uv m F S) (hb : Below W0.heap.size W0 W) (x : Int) (l : List Int) (hR : Kd.R (Kd.int .i64) 3 W W0.heap.size (fun k => W0.heap.size ≤ k) v l) :
  DevPost B L F { S with fset := true, left := x, surv := l } W0 (((W.setCell ⟨L.g, 4, none⟩ (.bool true)).setCell ⟨L.g, 5, none⟩ (.int .i64 x)).setCell ⟨L.g, 6, none⟩ v) := by
 have h := h0.below hb
 have hs := hb.size
 have hB : B ≤ W0.heap.size := by have := h0.hr _ h0.hF.1; omega
 have hfar : ∀ k, k ≠ L.g → (((W.setCell ⟨L.g, 4, none⟩ (.bool true)).setCell ⟨L.g, 5, none⟩ (.int .i64 x)).setCell ⟨L.g, 6, none⟩ v).heap[k]? = W.heap[k]? := fun k hk =>
  (Below.heap_setCell _ _ _ _ hk).trans ((Below.heap_setCell _ _ _ _ hk).trans (Below.heap_setCell _ _ _ _ hk))
 have hm : DevAt W B L vs pv uv m (fun k => F k ∨ (W0.heap.size ≤ k ∧ k < W.heap.size)) S := h.more (fun k z => Or.inl z) (fun k z => z.elim (fun y => h.hr k y) (fun y => ⟨by omega, y.2⟩))
 refine ⟨fun k => F k ∨ (W0.heap.size ≤ k ∧ k < W.heap.size), ⟨vs, pv, v, m, hm.setG v _ rfl rfl rfl rfl (blk_put (blk_put (blk_put h.hg 4 _ rfl) 5 _ rfl) 6 _ (by rfl)) (fun k hk _ => hfar k hk) (by simp [World.setCell]) ?_⟩, fun k z => z.imp id (fun y => y.1), ?_, ?_⟩
 ·have hv := Kd.R_V (base' := 0) (Kd.R_mono (Kd.R_step (Kd.R_types hR h.hg (by decide)) (fun k hk _ => hfar k hk.2)) (fun k hk => hk.1))
  refine Kd.V_mono (Kd.V_bound hv) (fun k hk => ⟨Or.inr ⟨hk.1, by have := hk.2; simpa [World.setCell] using this⟩, fun z => ?_⟩)
  have := (h0.hr k (h0.own k z)).2
  have := hk.1
  omega
 ·exact (((Kept.of_below hb F).setCell (p := ⟨L.g, 4, none⟩) (Or.inl h.hF.1) _).setCell (p := ⟨L.g, 5, none⟩) (Or.inl h.hF.1) _).setCell (p := ⟨L.g, 6, none⟩) (Or.inl h.hF.1) _
 ·exact (((hb.mono hB).setCell (p := ⟨L.g, 4, none⟩) (h.hr _ h.hF.1).1 _).setCell (p := ⟨L.g, 5, none⟩) (h.hr _ h.hF.1).1 _).setCell (p := ⟨L.g, 6, none⟩) (h.hr _ h.hF.1).1 _
def failS (S : DevS) (n : Int) (l : List Int) : DevS := if S.failed = true then S else { S with fset := true, left := max 0 n, surv := l }
set_option maxHeartbeats 1000000 in
set_option maxRecDepth 100000 in
theorem failafter_calls {W : World} {B : Nat} {L : Lay} {F : Nat → Prop} {S : DevS} (hI : DevIs W B L F S) (n : Int) (A : Option Addr) (c : Nat) (l : List Int) (hC : Kd.C (Kd.int .i64) W A l.length l) (hl : l.length ≤ 1000000) :
  Calls Try.prog 36 #[.pointer (some ⟨L.g, 0, none⟩), .int .i64 n, .slice A l.length c] W fun e W' => e = .returned (.tuple #[]) ∧ DevPost B L F (failS S n l) W W' := by
 have HI := Aside0.mk hI
 have hB := hI.hB
 obtain ⟨vs, pv, uv, m, hP⟩ := hI
 have c7 := hP.c7
 unfold failS
 cases hfa : S.failed with
 | true =>
  rw [if_pos rfl]
  rw [hfa] at c7
  clear hP hfa hC
  go_enter Try.func36, Try.ntmps36
  go_wp2_with fail
  refine bodyPost_ret (results_none rfl _ _ _) rfl ?_
  exact ⟨rfl, DevPost.same HI.out (Below.refl _ _)⟩
 | false =>
  rw [if_neg (by simp)]
  rw [hfa] at c7
  have HP := Aside0.mk hP
  have HCL := Aside0.mk (clone46 W A c l hC hl)
  have HFA := Aside0.mk hfa
  clear hP hfa hC
  by_cases hn : 0 < n
  ·have hmx : max 0 n = n := by omega
   rw [hmx]
   go_enter Try.func36, Try.ntmps36
   go_wp2_with fail
   refine HCL.out.mono ?_
   rintro e W2 ⟨v, rfl, hR, hb⟩
   obtain ⟨A2, c2, hv, _, _⟩ := Kd.R_reads hR
   have hP2 := HP.out.below hb
   have k4 := hP2.c4
   have k5 := hP2.c5
   have k6 := hP2.c6
   have f4 := hP2.fg 4
   have f5 := hP2.fg 5
   have f6 := hP2.fg 6
   subst hv
   have HR := Aside0.mk hR
   have HB := Aside0.mk hb
   have HP2 := Aside0.mk hP2
   clear hR hb hP2 HCL
   go_wp2_with fail
   go_end0
   have h := HP.out.arm HB.out n l HR.out
   rw [HFA.out] at h
   exact ⟨rfl, h⟩
  ·have hmx : max 0 n = 0 := by omega
   rw [hmx]
   go_enter Try.func36, Try.ntmps36
   go_wp2_with fail
   refine HCL.out.mono ?_
   rintro e W2 ⟨v, rfl, hR, hb⟩
   obtain ⟨A2, c2, hv, _, _⟩ := Kd.R_reads hR
   have hP2 := HP.out.below hb
   have k4 := hP2.c4
   have k5 := hP2.c5
   have k6 := hP2.c6
   have f4 := hP2.fg 4
   have f5 := hP2.fg 5
   have f6 := hP2.fg 6
   subst hv
   have HR := Aside0.mk hR
   have HB := Aside0.mk hb
   have HP2 := Aside0.mk hP2
   clear hR hb hP2 HCL
   go_wp2_with fail
   go_end0
   have h := HP.out.arm HB.out 0 l HR.out
   rw [HFA.out] at h
   exact ⟨rfl, h⟩
set_option maxRecDepth 100000 in
theorem repair_calls {W : World} {B : Nat} {L : Lay} {F : Nat → Prop} {S : DevS} (hI : DevIs W B L F S) :
  Calls Try.prog 37 #[.pointer (some ⟨L.g, 0, none⟩)] W fun e W' => e = .returned (.tuple #[]) ∧ DevPost B L F { S with failed := false, fset := false, left := 0, surv := [] } W W' := by
 obtain ⟨vs, pv, uv, m, hP⟩ := hI
 have k4 := hP.c4
 have k5 := hP.c5
 have k6 := hP.c6
 have k7 := hP.c7
 have f4 := hP.fg 4
 have f5 := hP.fg 5
 have f6 := hP.fg 6
 have f7 := hP.fg 7
 have HP := Aside0.mk hP
 obtain ⟨A, c, hu, _⟩ := hP.hu
 subst hu
 clear hP
 go_enter Try.func37, Try.ntmps37
 go_wp2_with fail
 go_end0
 have hbl := HP.out.blow false
 exact ⟨rfl, F, ⟨vs, pv, _, m, hbl⟩, fun k z => Or.inl z, ((((Kept.refl W F).setCell (p := ⟨L.g, 7, none⟩) (Or.inl HP.out.hF.1) _).setCell (p := ⟨L.g, 4, none⟩) (Or.inl HP.out.hF.1) _).setCell (p := ⟨L.g, 5, none⟩) (Or.inl HP.out.hF.1) _).setCell (p := ⟨L.g, 6, none⟩) (Or.inl HP.out.hF.1) _,
  ((((Below.refl B W).setCell (p := ⟨L.g, 7, none⟩) (HP.out.hr _ HP.out.hF.1).1 _).setCell (p := ⟨L.g, 4, none⟩) (HP.out.hr _ HP.out.hF.1).1 _).setCell (p := ⟨L.g, 5, none⟩) (HP.out.hr _ HP.out.hF.1).1 _).setCell (p := ⟨L.g, 6, none⟩) (HP.out.hr _ HP.out.hF.1).1 _⟩
def damB (s : ByteArray) (at_ : Nat) (mask : Int) : ByteArray := strOfNums ((bytesOf s).set at_ (bits BinOp.xor IntKind.u8 (((s.data.toList.getD at_ 0).toNat : Nat) : Int) mask))
theorem damB_size (s : ByteArray) (at_ : Nat) (mask : Int) : (damB s at_ mask).size = s.size := by
 unfold damB strOfNums
 show (List.map _ _).toArray.size = _
 rw [List.size_toArray, List.length_map, List.length_set, bytesOf_length]
theorem reads_put {w : World} {k : IntKind} {nb n : Nat} {xs : List Int} (h : ReadsInt w k (some ⟨nb, 0, none⟩) n xs) (a : Nat) (ha : a < n) (v : Int) : ReadsInt (w.setCell ⟨nb, a, none⟩ (.int k v)) k (some ⟨nb, 0, none⟩) n (xs.set a v) := by
 obtain ⟨h1, h2, h3⟩ := h
 refine ⟨by rw [List.length_set]; exact h1, h2, fun hn => ?_⟩
 obtain ⟨ad, e, hc⟩ := h3 hn
 refine ⟨ad, e, fun j hj => ?_⟩
 cases e
 have hcj := hc j hj
 rw [add_plain] at hcj ⊢
 by_cases e : a = j
 ·subst e
  rw [World.cell?_setCell_same _ _ _ hcj, List.getD_eq_getElem?_getD, List.getElem?_set, if_pos rfl, if_pos (by omega)]
  rfl
 ·rw [World.cell?_setCell_other _ _ _ _ (by intro h; injection h with _ h2 _; omega), hcj, List.getD_eq_getElem?_getD, List.getD_eq_getElem?_getD, List.getElem?_set, if_neg e]
def damageS (S : DevS) (sec at_ mask : Int) : Int × DevS :=
  if (0 ≤ sec ∧ sec < (S.stable.length : Int)) ∧ 0 ≤ at_ ∧ at_ < 140 then (if mask = 0 then (1, S) else (0, { S with stable := S.stable.set sec.toNat (damB (S.stable.getD sec.toNat ⟨#[]⟩) at_.toNat mask) })) else (2, S)
set_option maxHeartbeats 1000000 in
set_option maxRecDepth 100000 in
theorem damage_calls {W : World} {B : Nat} {L : Lay} {F : Nat → Prop} {S : DevS} {k : Nat} (hI : DevIs W B L F S) (hf : Fine k S) (sec at_ mask : Int) (hm0 : 0 ≤ mask) (hm1 : mask < 256) :
  Calls Try.prog 38 #[.pointer (some ⟨L.g, 0, none⟩), .int .i64 sec, .int .i64 at_, .int .u8 mask] W fun e W' => e = .returned (.int .i64 (damageS S sec at_ mask).1) ∧ DevPost B L F (damageS S sec at_ mask).2 W W' := by
 have HI := Aside0.mk hI
 have hB := hI.hB
 obtain ⟨vs, pv, uv, m, hP⟩ := hI
 unfold damageS
 by_cases h1 : 0 ≤ sec ∧ sec < (S.stable.length : Int)
 ·have HT := Aside0.mk (there_yes hP sec h1.1 h1.2)
  by_cases h2 : 0 ≤ at_
  ·have hd2 : decide (at_ < 0) = false := decide_eq_false (by omega)
   by_cases h3 : at_ < 140
   ·have hd3 : decide (140 ≤ at_) = false := decide_eq_false (by omega)
    rw [if_pos ⟨h1, h2, h3⟩]
    by_cases h4 : mask = 0
    ·rw [if_pos h4]
     have hd4 : (mask == 0) = true := by rw [h4]; rfl
     clear h4 hP hf h1
     go_enter Try.func38, Try.ntmps38
     go_wp2_with fail
     refine HT.out.mono ?_
     rintro e W2 ⟨rfl, rfl⟩
     go_wp2_with fail
     go_ret
     exact ⟨rfl, DevPost.same HI.out (Below.refl _ _)⟩
    ·rw [if_neg h4]
     have hd4 : (mask == 0) = false := beq_eq_false_iff_ne.2 h4
     obtain ⟨n, hn⟩ := Int.eq_ofNat_of_zero_le h1.1
     obtain ⟨a, ha⟩ := Int.eq_ofNat_of_zero_le h2
     subst hn
     subst ha
     have hns : n < S.stable.length := by omega
     rw [Int.toNat_natCast, Int.toNat_natCast]
     have hst : S.stable.getD n ⟨#[]⟩ = S.stable[n] := by rw [List.getD_eq_getElem?_getD, List.getElem?_eq_getElem hns]; rfl
     rw [hst]
     have c0 := hP.c0
     have cs := hP.cs n hns
     have hsz : S.stable[n].size = 140 := hf.size _ (List.getElem_mem _)
     have fs : W.frozen? ⟨L.sb, n, none⟩ = false := blk_frozen hP.hs n
     have hnz : (n : Int) < (S.stable.length : Int) := h1.2
     have ls : L.sb < W.heap.size := blk_lt hP.hs
     have lg := hP.lg
     obtain ⟨x, hx⟩ : ∃ x, x = S.stable[n] := ⟨_, rfl⟩
     rw [← hx] at cs hsz ⊢
     have HP := Aside0.mk hP
     have HSZ := Aside0.mk hsz
     have hxl : (x.size : Int) ≤ 140 := by omega
     have hcv := print_bytes (P := Try.prog) 9 87 5 Try.underlying9 Try.underlying87 Try.underlying5 x W
     have hax : a < x.size := by omega
     have haz : (a : Int) < (x.size : Int) := by omega
     obtain ⟨W5, hW5⟩ : ∃ W5, W5 = Lib.bytesWorld W 5 x := ⟨_, rfl⟩
     have hb5 : Below W.heap.size W W5 := by rw [hW5]; exact bytes_below (Below.refl _ _) (Nat.le_refl _) 5 x
     have hx5 := Lib.bytesWorld_at_new W 5 x
     have q5' := Lib.bytesWorld_cell W 5 x a hax
     have hr5 := bytes_reads W 5 x (by omega)
     have hl5 := Lib.bytesWorld_size W 5 x
     rw [← hW5] at hx5 q5' hr5 hcv hl5
     obtain ⟨b, hb⟩ : ∃ b, b = (x.data.toList.getD a 0) := ⟨_, rfl⟩
     have q5 : W5.cell? ⟨W.heap.size, a, none⟩ = some (.int .u8 (b.toNat : Int)) := by rw [hb]; exact q5'
     have g5 : W5.frozen? ⟨W.heap.size, a, none⟩ = false := by
      unfold World.frozen?
      rw [hx5]
      show (decide (_ ≤ a) && _) = false
      have : ¬ (Lib.bytesCells W 5 x).size ≤ a := by unfold Lib.bytesCells; simp; have : x.data.size = x.size := rfl; omega
      rw [decide_eq_false this]; rfl
     have n5 : W.heap.size < W5.heap.size := by omega
     have c05 := (hb5.cell (p := ⟨L.g, 0, none⟩) lg).trans c0
     have cs5 := (hb5.cell (p := ⟨L.sb, n, none⟩) ls).trans cs
     have fs5 := (hb5.frozen (p := ⟨L.sb, n, none⟩) ls).trans fs
     have ne1 : W.heap.size ≠ L.sb := by omega
     have ne2 : W.heap.size ≠ L.g := by omega
     have hb0 : (0 : Int) ≤ (b.toNat : Int) := by omega
     have hb1 : (b.toNat : Int) < 256 := by have := b.toNat_lt; omega
     have hcv2 : (convert 87 9 (.slice (some ⟨W.heap.size, 0, none⟩) x.size (grownCap W x.size 0 5))).run Try.prog (W5.setCell ⟨W.heap.size, a, none⟩ (.int .u8 (bits BinOp.xor IntKind.u8 (b.toNat : Int) mask))).drew = .ok (.string (damB x a mask)) (W5.setCell ⟨W.heap.size, a, none⟩ (.int .u8 (bits BinOp.xor IntKind.u8 (b.toNat : Int) mask))).drew := by
      have h := string_of_reads (P := Try.prog) (src := 87) (dst := 9) (c := grownCap W x.size 0 5) Try.underlying87 Try.underlying5 Try.underlying9 (show ReadsInt (W5.setCell ⟨W.heap.size, a, none⟩ (.int .u8 (bits BinOp.xor IntKind.u8 (b.toNat : Int) mask))).drew .u8 (some ⟨W.heap.size, 0, none⟩) x.size _ from reads_put hr5 a hax _)
      unfold damB
      rw [← hb]
      exact h
     have HB5 := Aside0.mk hb5
     clear h4 hP hf h1 hst hx hns hsz hx5 hW5 hl5 hb hr5 hb5 q5'
     go_enter Try.func38, Try.ntmps38
     go_wp2_with fail
     refine HT.out.mono ?_
     rintro e W2 ⟨rfl, rfl⟩
     go_wp2_with fail
     go_region
     go_wp2_with fail
     go_ret
     have hb6 := HB5.out.setCell (p := ⟨W.heap.size, a, none⟩) (Nat.le_refl _) (.int .u8 (bits BinOp.xor IntKind.u8 (b.toNat : Int) mask))
     have h6 := (HP.out.below hb6).setStablePost n (damB x a mask)
     exact ⟨rfl, (h6.after hb6 hB).drewN 1⟩
   ·have hd3 : decide (140 ≤ at_) = true := decide_eq_true (by omega)
    rw [if_neg (fun z => h3 z.2.2)]
    clear hP hf h1
    go_enter Try.func38, Try.ntmps38
    go_wp2_with fail
    refine HT.out.mono ?_
    rintro e W2 ⟨rfl, rfl⟩
    go_wp2_with fail
    go_ret
    exact ⟨rfl, DevPost.same HI.out (Below.refl _ _)⟩
  ·have hd2 : decide (at_ < 0) = true := decide_eq_true (by omega)
   rw [if_neg (fun z => h2 z.2.1)]
   clear hP hf h1
   go_enter Try.func38, Try.ntmps38
   go_wp2_with fail
   refine HT.out.mono ?_
   rintro e W2 ⟨rfl, rfl⟩
   go_wp2_with fail
   go_ret
   exact ⟨rfl, DevPost.same HI.out (Below.refl _ _)⟩
 ·have HT := Aside0.mk (there_no hP sec h1)
  rw [if_neg (fun z => h1 z.1)]
  clear hP hf h1
  go_enter Try.func38, Try.ntmps38
  go_wp2_with fail
  refine HT.out.mono ?_
  rintro e W2 ⟨rfl, rfl⟩
  go_wp2_with fail
  go_ret
  exact ⟨rfl, DevPost.same HI.out (Below.refl _ _)⟩
end Go.Proofs.Ytflajmgichdhhaa.PG
namespace Go.Proofs.Ytflajmgichdhhaa.Opens
open Go.RowKit Go.WideShapes Go.ChangeShapes Go.Deep Go.Proofs.YtflajmgichdhhaaW.PrintWords Go.Proofs.Ytflajmgichdhhaa.PG
set_option linter.unusedVariables false
theorem cells37 : Try.prog.cellsOf 37 = 8 := by kernel_rfl
theorem cells35 : Try.prog.cellsOf 35 = 2 := by kernel_rfl
theorem cells29 : Try.prog.cellsOf 29 = 1 := by kernel_rfl
theorem cells3 : Try.prog.cellsOf 3 = 1 := by kernel_rfl
theorem cells5 : Try.prog.cellsOf 5 = 1 := by kernel_rfl
theorem cells9 : Try.prog.cellsOf 9 = 1 := by kernel_rfl
instance : Inhabited S37 := ⟨z37⟩
theorem one_cell {cs : List Value} {i : Nat} {v : Value} (h : (cs.drop i).take 1 = [v]) : cs[i]? = some v := by
 have : ((cs.drop i).take 1)[0]? = some v := by rw [h]; rfl
 rw [List.getElem?_take, List.getElem?_drop] at this
 simpa using this
structure OpWf (o : S37) : Prop where
  kind : 0 ≤ o.f0 ∧ o.f0 < 256
  n : -9223372036854775808 ≤ o.f4 ∧ o.f4 ≤ 9223372036854775807
  mask : 0 ≤ o.f5 ∧ o.f5 < 256
theorem wf_i64 {n : Int} (h : (Lit.int .i64 n).wf = true) : -9223372036854775808 ≤ n ∧ n ≤ 9223372036854775807 := by
 simp [Lit.wf, show IntKind.i64.min = -9223372036854775808 from rfl, show IntKind.i64.max = 9223372036854775807 from rfl] at h; omega
theorem wf_u8 {n : Int} (h : (Lit.int .u8 n).wf = true) : 0 ≤ n ∧ n < 256 := by
 simp [Lit.wf, show IntKind.u8.min = 0 from rfl, show IntKind.u8.max = 255 from rfl] at h; omega
theorem open_ints' {H : Type} {enc : TypeId × Value → H} {W : World} {base : Nat} {spare : Nat → Bool} {held : Bool} {fuel : Nat} {cs : List Value} {x : DataW H × List MemPlace} (hf : DataW.trod enc Try.prog W base spare held fuel 29 cs = some x) :
  ∃ (a : Option Addr) (l : List Int) (cap : Nat), cs = [.slice a l.length cap] ∧ Kd.C (Kd.int .i64) W a l.length l ∧ l.length ≤ cap ∧ cap ≤ maxLen := by
 rcases open_slice Try.underlying29 hf with ⟨hcs, _⟩ | ⟨x, len, cap, m, n, D, Pl, hcs, hb, hl, hm, hmm, hx, hel⟩
 ·exact ⟨none, [], 0, hcs, Kd.C_nil _ _, Nat.le_refl _, Nat.zero_le _⟩
 ·have hlm : len ≤ m := by rw [hmm]; split <;> omega
  obtain ⟨o, ho⟩ := choose_lt (α := Int) (p := fun i o => W.cell? (x.add i) = some (.int .i64 o)) (n := len) (fun i hi => by
   obtain ⟨cs', h1, h2⟩ := hel i (by omega)
   rw [cells3] at h1
   obtain ⟨o, e, _, _⟩ := DataW.trod_int Try.underlying3 h2
   obtain ⟨_, h3, h4⟩ := World.cells?_some h1
   have := h4 0 (by omega)
   rw [Deep.add_add, Nat.mul_one, Nat.add_zero, e] at this
   exact ⟨o, this⟩)
  have hlen : ((List.range len).map o).length = len := by simp
  refine ⟨some x, (List.range len).map o, cap, by rw [hlen]; exact hcs, ?_, by rw [hlen]; exact hl, hm⟩
  refine ⟨rfl, by rw [hlen]; exact Nat.le_trans hl hm, fun hn => ⟨x, rfl, fun i p hp => ?_⟩⟩
  have hi : i < len := by
   have := (List.getElem?_eq_some_iff.1 hp).1
   rwa [hlen] at this
  have hpo : p = o i := by
   rw [List.getElem?_map, List.getElem?_range hi] at hp
   exact (Option.some.inj hp).symm
  subst hpo
  refine ⟨[.int .i64 (o i)], rfl, rfl, fun j u hj => ?_⟩
  match j with
  | 0 =>
   cases hj
   have := ho i hi
   rwa [show i * (Kd.int .i64).sz + 0 = i from by show i * 1 + 0 = i; omega]
  | j + 1 => cases hj
set_option maxRecDepth 100000 in
theorem open_op {H : Type} {enc : TypeId × Value → H} {W : World} {base : Nat} {spare : Nat → Bool} {held : Bool} {fuel : Nat} {cs : List Value} {x : DataW H × List MemPlace} (h : DataW.trod enc Try.prog W base spare held fuel 37 cs = some x) :
  ∃ o : S37, k37.K W o cs ∧ OpWf o := by
 obtain ⟨xs, n, _, _, hl, hlen, hf⟩ := DataW.trod_struct Try.underlying37 h
 rw [cells37] at hl
 have g0 : DataW.trod enc Try.prog W base spare held n 5 ((cs.drop 0).take (Try.prog.cellsOf 5)) = xs[0]? := hf 0 _ rfl
 have g1 : DataW.trod enc Try.prog W base spare held n 35 ((cs.drop 1).take (Try.prog.cellsOf 35)) = xs[1]? := hf 1 _ rfl
 have g2 : DataW.trod enc Try.prog W base spare held n 3 ((cs.drop 3).take (Try.prog.cellsOf 3)) = xs[2]? := hf 2 _ rfl
 have g3 : DataW.trod enc Try.prog W base spare held n 9 ((cs.drop 4).take (Try.prog.cellsOf 9)) = xs[3]? := hf 3 _ rfl
 have g4 : DataW.trod enc Try.prog W base spare held n 3 ((cs.drop 5).take (Try.prog.cellsOf 3)) = xs[4]? := hf 4 _ rfl
 have g5 : DataW.trod enc Try.prog W base spare held n 5 ((cs.drop 6).take (Try.prog.cellsOf 5)) = xs[5]? := hf 5 _ rfl
 have g6 : DataW.trod enc Try.prog W base spare held n 29 ((cs.drop 7).take (Try.prog.cellsOf 29)) = xs[6]? := hf 6 _ rfl
 rw [cells3] at g2 g4
 rw [cells5] at g0 g5
 rw [cells9] at g3
 rw [cells35] at g1
 rw [cells29] at g6
 match xs, hlen with
 | [y0, y1, y2, y3, y4, y5, y6], _ =>
  obtain ⟨a0, e0, _, w0⟩ := DataW.trod_int Try.underlying5 g0
  obtain ⟨zs, n2, _, _, hl2, hlen2, hf2⟩ := DataW.trod_struct Try.underlying35 g1
  have q0 : DataW.trod enc Try.prog W base spare held n2 3 ((((cs.drop 1).take 2).drop 0).take (Try.prog.cellsOf 3)) = zs[0]? := hf2 0 _ rfl
  have q1 : DataW.trod enc Try.prog W base spare held n2 3 ((((cs.drop 1).take 2).drop 1).take (Try.prog.cellsOf 3)) = zs[1]? := hf2 1 _ rfl
  rw [cells3] at q0 q1
  match zs, hlen2 with
  | [z0, z1], _ =>
   obtain ⟨b0, f0, _, _⟩ := DataW.trod_int Try.underlying3 q0
   obtain ⟨b1, f1, _, _⟩ := DataW.trod_int Try.underlying3 q1
   obtain ⟨a2, e2, _, _⟩ := DataW.trod_int Try.underlying3 g2
   obtain ⟨a3, e3, _, _⟩ := DataW.trod_string Try.underlying9 g3
   obtain ⟨a4, e4, _, w4⟩ := DataW.trod_int Try.underlying3 g4
   obtain ⟨a5, e5, _, w5⟩ := DataW.trod_int Try.underlying5 g5
   obtain ⟨A, l, c, e6, hC, hc, _⟩ := open_ints' g6
   have c0 := one_cell e0
   have c1 := one_cell f0
   have c2 := one_cell f1
   have c3 := one_cell e2
   have c4 := one_cell e3
   have c5 := one_cell e4
   have c6 := one_cell e5
   have c7 := one_cell e6
   match cs, hl with
   | [u0, u1, u2, u3, u4, u5, u6, u7], _ =>
    cases c0; cases c1; cases c2; cases c3; cases c4; cases c5; cases c6; cases c7
    exact ⟨⟨a0, ⟨b0, b1⟩, a2, a3, a4, a5, l⟩, k37_mk W ⟨a0, ⟨b0, b1⟩, a2, a3, a4, a5, l⟩ hc hC, ⟨wf_u8 w0, wf_i64 w4, wf_u8 w5⟩⟩
theorem open_ops {H : Type} {enc : TypeId × Value → H} {W : World} {base : Nat} {spare : Nat → Bool} {held : Bool} {a : Option Addr} {len cap : Nat} {d : DataW H} {ps : List MemPlace}
  (h : DataW.Trod enc Try.prog W base spare held 22 (.slice a len cap) d ps) : ∃ l : List S37, len = l.length ∧ Kd.C k37 W a l.length l ∧ l.length ≤ cap ∧ cap ≤ maxLen ∧ ∀ o ∈ l, OpWf o := by
 obtain ⟨fuel, hf⟩ := h
 rcases open_slice Try.underlying22 hf with ⟨hcs, _⟩ | ⟨x, len', cap', m, n, D, Pl, hcs, hb, hl, hm, hmm, hx, hel⟩
 ·simp [Value.cells] at hcs
  obtain ⟨rfl, rfl, rfl⟩ := hcs
  exact ⟨[], rfl, Kd.C_nil _ _, Nat.le_refl _, Nat.zero_le _, fun o ho => by cases ho⟩
 ·simp [Value.cells] at hcs
  obtain ⟨rfl, rfl, rfl⟩ := hcs
  have hlm : len ≤ m := by rw [hmm]; split <;> omega
  obtain ⟨o, ho⟩ := choose_lt (α := S37) (p := fun i o => (∃ cs, W.cells? base (x.add (i * 8)) 8 = some cs ∧ k37.K W o cs) ∧ OpWf o) (n := len) (fun i hi => by
   obtain ⟨cs, h1, h2⟩ := hel i (by omega)
   rw [cells37] at h1
   obtain ⟨o, ho, hw⟩ := open_op h2
   exact ⟨o, ⟨cs, h1, ho⟩, hw⟩)
  have hlen : ((List.range len).map o).length = len := by simp
  refine ⟨(List.range len).map o, hlen.symm, ?_, by rw [hlen]; exact hl, hm, fun p hp => ?_⟩
  ·refine ⟨rfl, by rw [hlen]; exact Nat.le_trans hl hm, fun hn => ⟨x, rfl, fun i p hp => ?_⟩⟩
   have hi : i < len := by
    have := (List.getElem?_eq_some_iff.1 hp).1
    rwa [hlen] at this
   obtain ⟨⟨cs, h1, h2⟩, _⟩ := ho i hi
   have hpo : p = o i := by
    rw [List.getElem?_map, List.getElem?_range hi] at hp
    exact (Option.some.inj hp).symm
   subst hpo
   obtain ⟨_, h3, h4⟩ := World.cells?_some h1
   refine ⟨cs, h3, h2, fun j u hj => ?_⟩
   have hj8 : j < 8 := by
    have := (List.getElem?_eq_some_iff.1 hj).1
    omega
   have := h4 j hj8
   rw [Deep.add_add] at this
   exact this.trans hj
  ·obtain ⟨i, hi, rfl⟩ := List.mem_map.1 hp
   exact (ho i (List.mem_range.1 hi)).2
end Go.Proofs.Ytflajmgichdhhaa.Opens
namespace Go.Proofs.Ytflajmgichdhhaa.PG
open Go.RowKit Go.Proofs.YtflajmgichdhhaaW.PrintWords Go.Proofs.YtflajmgichdhhaaW.PrintLast Go.Proofs.YtflajmgichdhhaaW.PrintMore
set_option linter.unusedVariables false
set_option linter.unusedSimpArgs false
def repairS (S : DevS) : DevS := { S with failed := false, fset := false, left := 0, surv := [] }
def doS (o : S37) (S : DevS) : Int × DevS :=
  if o.f0 % 8 = 0 then writeS S o.f1.f0 o.f1.f1 o.f2 o.f3 else if o.f0 % 8 = 1 then syncS S o.f1.f0 o.f1.f1 else if o.f0 % 8 = 2 then (0, finishS (isOf o.f1.f0) o.f6 S) else if o.f0 % 8 = 3 then (0, fenceS S o.f1.f0 o.f1.f1)
  else if o.f0 % 8 = 4 then (0, failS S o.f4 o.f6) else if o.f0 % 8 = 5 then (0, repairS S) else if o.f0 % 8 = 6 then damageS S o.f2 o.f4 o.f5 else returnS S o.f2 o.f4
structure Good (k : Nat) (S : DevS) : Prop where
  fine : Fine k S
  surv : S.surv.length ≤ 1000000
theorem Good.sl {k : Nat} {S : DevS} (h : Good k S) : S.surv.length ≤ 4611686018427387904 := Nat.le_trans h.surv (by decide)
theorem Good.mono {k k' : Nat} {S : DevS} (h : Good k S) (hk : k ≤ k') : Good k' S := ⟨h.fine.mono hk, h.surv⟩
theorem surv_finish (p : S99 → Bool) (l : List Int) (S : DevS) : (finishS p l S).surv = S.surv := (endF_same p l S.pend (0, S)).surv
theorem Good.finish {k : Nat} {S : DevS} (h : Good k S) (p : S99 → Bool) (l : List Int) : Good k (finishS p l S) := ⟨h.fine.finish p l, by rw [surv_finish]; exact h.surv⟩
theorem surv_admit (S : DevS) (sys ep : Int) (n : Nat) (h : S.surv.length ≤ n) : (admitS S sys ep).2.surv.length ≤ n := by
 unfold admitS
 split
 ·exact h
 ·split
  ·exact h
  ·split
   ·exact h
   ·split
    ·exact h
    ·show (finishS isAny S.surv (blown S)).surv.length ≤ n
     rw [surv_finish]
     exact Nat.zero_le _
theorem Good.admit {k : Nat} {S : DevS} (h : Good k S) (sys ep : Int) : Good k (admitS S sys ep).2 := ⟨h.fine.admit sys ep, surv_admit S sys ep _ h.surv⟩
theorem Good.write {k : Nat} {S : DevS} (h : Good k S) (sys ep sec : Int) (d : ByteArray) : Good (k + 1) (writeS S sys ep sec d).2 := by
 refine ⟨fine_w h.fine sys ep sec d, ?_⟩
 have ha := surv_admit S sys ep _ h.surv
 unfold writeS
 split
 ·split
  ·split
   ·exact ha
   ·exact ha
  ·exact h.surv
 ·exact h.surv
theorem Good.sync {k : Nat} {S : DevS} (h : Good k S) (sys ep : Int) : Good k (syncS S sys ep).2 := by
 unfold syncS
 split
 ·split
  ·exact (h.admit sys ep).finish _ _
  ·exact h.admit sys ep
 ·exact h
theorem Good.fence {k : Nat} {S : DevS} (h : Good k S) (sys ep : Int) : Good k (fenceS S sys ep) := by
 refine ⟨h.fine.fence sys ep, ?_⟩
 have key : ∀ b : Bool, (if b = true then { S with fences := fun a => if a = sys then some ep else S.fences a } else S).surv.length ≤ 1000000 := fun b => by
  cases b
  ·exact h.surv
  ·exact h.surv
 unfold fenceS
 split
 ·exact h.surv
 ·exact key _
theorem Good.fail {k : Nat} {S : DevS} (h : Good k S) (n : Int) (l : List Int) (hn : n ≤ 9223372036854775807) (hl : l.length ≤ 1000000) : Good k (failS S n l) := by
 unfold failS
 split
 ·exact h
 ·exact ⟨{ h.fine with l0 := ⟨by show 0 ≤ max 0 n; omega, by show max 0 n ≤ _; omega⟩ }, hl⟩
theorem Good.repair {k : Nat} {S : DevS} (h : Good k S) : Good k (repairS S) := ⟨{ h.fine with l0 := ⟨Int.le_refl _, by show (0 : Int) ≤ _; decide⟩ }, Nat.zero_le _⟩
theorem Good.setStable {k : Nat} {S : DevS} (h : Good k S) (n : Nat) (d : ByteArray) (hd : d.size = 140) : Good k { S with stable := S.stable.set n d } := by
 refine ⟨{ h.fine with len := by simp [h.fine.len], n0 := by simpa using h.fine.n0, n1 := by simpa using h.fine.n1, size := ?_, pend := ?_ }, h.surv⟩
 ·intro s hs
  rcases List.mem_or_eq_of_mem_set hs with hs | hs
  ·exact h.fine.size s hs
  ·rw [hs]; exact hd
 ·intro w hw
  have := h.fine.pend w hw
  simpa using this
theorem Good.damage {k : Nat} {S : DevS} (h : Good k S) (sec at_ mask : Int) : Good k (damageS S sec at_ mask).2 := by
 unfold damageS
 split
 ·rename_i h1
  split
  ·exact h
  ·exact h.setStable _ _ (by rw [damB_size]; exact h.fine.size _ (getD_mem _ _ _ (by omega)))
 ·exact h
theorem Good.ret {k : Nat} {S : DevS} (h : Good k S) (sec back : Int) : Good k (returnS S sec back).2 := by
 unfold returnS
 split
 ·rename_i h1
  refine h.setStable _ _ (h.fine.osize _ (getD_mem S.old sec.toNat [] (by rw [h.fine.len]; omega)) _ (getD_mem _ _ _ (by omega)))
 ·exact h
theorem Good.do {k : Nat} {S : DevS} (h : Good k S) (o : S37) (hw : Opens.OpWf o) (hl : o.f6.length ≤ 1000000) : Good (k + 1) (doS o S).2 := by
 unfold doS
 split
 ·exact h.write _ _ _ _
 ·split
  ·exact (h.sync _ _).mono (Nat.le_succ _)
  ·split
   ·exact (h.finish _ _).mono (Nat.le_succ _)
   ·split
    ·exact (h.fence _ _).mono (Nat.le_succ _)
    ·split
     ·exact (h.fail _ _ hw.n.2 hl).mono (Nat.le_succ _)
     ·split
      ·exact h.repair.mono (Nat.le_succ _)
      ·split
       ·exact (h.damage _ _ _).mono (Nat.le_succ _)
       ·exact (h.ret _ _).mono (Nat.le_succ _)
def opCells (o : S37) (A : Option Addr) (c : Nat) : Array Value := #[.int .u8 o.f0, .int .i64 o.f1.f0, .int .i64 o.f1.f1, .int .i64 o.f2, .string o.f3, .int .i64 o.f4, .int .u8 o.f5, .slice A o.f6.length c]
set_option maxHeartbeats 2000000 in
set_option maxRecDepth 100000 in
theorem do_calls {W : World} {B : Nat} {L : Lay} {F : Nat → Prop} {S : DevS} {k : Nat} (hI : DevIs W B L F S) (hg : Good k S) (hk : k ≤ 1000000) (o : S37) (hw : Opens.OpWf o) (A : Option Addr) (c : Nat) (hl : Kd.F (Kd.int .i64) W (fun k => ¬ F k) A o.f6.length o.f6) (hlc : o.f6.length ≤ c) (hlm : o.f6.length ≤ 1000000) :
  Calls Try.prog 14 #[.pointer (some ⟨L.g, 0, none⟩), .agg (opCells o A c)] W fun e W' => e = .returned (.int .i64 (doS o S).1) ∧ DevPost B L F (doS o S).2 W W' := by
 have hB := hI.hB
 obtain ⟨W1, hW1⟩ : ∃ W1, W1 = W.alloc (.cells (opCells o A c) 37) := ⟨_, rfl⟩
 have hb1 : Below W.heap.size W W1 := by rw [hW1]; exact below_alloc (Below.refl _ _) _
 have hI1 := hI.below hb1
 have hx : W1.heap[W.heap.size]? = some (.cells (opCells o A c) 37 (0, 0)) := by rw [hW1]; exact blk_new _ _
 have hl1 := Kd.F_below hl hb1
 have H1 := Aside0.mk hI1
 have HB1 := Aside0.mk hb1
 have HG := Aside0.mk hg
 have HL := Aside0.mk hl1
 have HWF := Aside0.mk hw
 have hk0 := hw.kind.1
 have hk1 := hw.kind.2
 obtain ⟨kd, hkd⟩ : ∃ kd, kd = o.f0 % 8 := ⟨_, rfl⟩
 have hkb : 0 ≤ kd ∧ kd < 8 := by omega
 have HWK := Aside0.mk hW1
 unfold doS
 rw [← hkd]
 have HKD := Aside0.mk hkd.symm
 clear hkd
 unfold opCells at hW1 ⊢
 clear hI hI1 hb1 hg hl hl1 hw hx HWK
 by_cases c0 : kd = 0
 ·have d0 : (o.f0 % 8 == 0) = true := by rw [HKD.out, c0]; rfl
  rw [if_pos c0]
  have HC := Aside0.mk (write_calls H1.out HG.out.fine hk HG.out.sl o.f1.f0 o.f1.f1 o.f2 o.f3)
  clear hkb c0
  subst hW1
  go_enter Try.func14, Try.ntmps14
  go_wp2_with fail
  refine HC.out.mono ?_
  rintro e W2 ⟨rfl, hp⟩
  have HP := Aside0.mk (hp.after HB1.out hB)
  clear hp HC
  go_wp2_with fail
  go_ret
  exact ⟨rfl, HP.out⟩
 ·have d0 : (o.f0 % 8 == 0) = false := beq_eq_false_iff_ne.2 (by rw [HKD.out]; exact c0)
  by_cases c1 : kd = 1
  ·have d1 : (o.f0 % 8 == 1) = true := by rw [HKD.out, c1]; rfl
   rw [if_neg c0]
   rw [if_pos c1]
   have HC := Aside0.mk (sync_calls H1.out HG.out.fine hk HG.out.sl o.f1.f0 o.f1.f1)
   clear hkb c0 c1
   subst hW1
   go_enter Try.func14, Try.ntmps14
   go_wp2_with fail
   refine HC.out.mono ?_
   rintro e W2 ⟨rfl, hp⟩
   have HP := Aside0.mk (hp.after HB1.out hB)
   clear hp HC
   go_wp2_with fail
   go_ret
   exact ⟨rfl, HP.out⟩
  ·have d1 : (o.f0 % 8 == 1) = false := beq_eq_false_iff_ne.2 (by rw [HKD.out]; exact c1)
   by_cases c2 : kd = 2
   ·have d2 : (o.f0 % 8 == 2) = true := by rw [HKD.out, c2]; rfl
    rw [if_neg c0]
    rw [if_neg c1]
    rw [if_pos c2]
    have HC := Aside0.mk (crash_calls H1.out HG.out.fine hk o.f1.f0 A c o.f6 HL.out hlc (Nat.le_trans hlm (by decide)))
    clear hkb c0 c1 c2
    subst hW1
    go_enter Try.func14, Try.ntmps14
    go_wp2_with fail
    refine HC.out.mono ?_
    rintro e W2 ⟨rfl, hp⟩
    have HP := Aside0.mk (hp.after HB1.out hB)
    clear hp HC
    go_wp2_with fail
    go_ret
    exact ⟨rfl, HP.out⟩
   ·have d2 : (o.f0 % 8 == 2) = false := beq_eq_false_iff_ne.2 (by rw [HKD.out]; exact c2)
    by_cases c3 : kd = 3
    ·have d3 : (o.f0 % 8 == 3) = true := by rw [HKD.out, c3]; rfl
     rw [if_neg c0]
     rw [if_neg c1]
     rw [if_neg c2]
     rw [if_pos c3]
     have HC := Aside0.mk (fence_calls H1.out o.f1.f0 o.f1.f1)
     clear hkb c0 c1 c2 c3
     subst hW1
     go_enter Try.func14, Try.ntmps14
     go_wp2_with fail
     refine HC.out.mono ?_
     rintro e W2 ⟨rfl, hp⟩
     have HP := Aside0.mk (hp.after HB1.out hB)
     clear hp HC
     go_wp2_with fail
     go_ret
     exact ⟨rfl, HP.out⟩
    ·have d3 : (o.f0 % 8 == 3) = false := beq_eq_false_iff_ne.2 (by rw [HKD.out]; exact c3)
     by_cases c4 : kd = 4
     ·have d4 : (o.f0 % 8 == 4) = true := by rw [HKD.out, c4]; rfl
      rw [if_neg c0]
      rw [if_neg c1]
      rw [if_neg c2]
      rw [if_neg c3]
      rw [if_pos c4]
      have HC := Aside0.mk (failafter_calls H1.out o.f4 A c o.f6 (Kd.F_now HL.out) hlm)
      clear hkb c0 c1 c2 c3 c4
      subst hW1
      go_enter Try.func14, Try.ntmps14
      go_wp2_with fail
      refine HC.out.mono ?_
      rintro e W2 ⟨rfl, hp⟩
      have HP := Aside0.mk (hp.after HB1.out hB)
      clear hp HC
      go_wp2_with fail
      go_ret
      exact ⟨rfl, HP.out⟩
     ·have d4 : (o.f0 % 8 == 4) = false := beq_eq_false_iff_ne.2 (by rw [HKD.out]; exact c4)
      by_cases c5 : kd = 5
      ·have d5 : (o.f0 % 8 == 5) = true := by rw [HKD.out, c5]; rfl
       rw [if_neg c0]
       rw [if_neg c1]
       rw [if_neg c2]
       rw [if_neg c3]
       rw [if_neg c4]
       rw [if_pos c5]
       have HC := Aside0.mk (repair_calls H1.out)
       clear hkb c0 c1 c2 c3 c4 c5
       subst hW1
       go_enter Try.func14, Try.ntmps14
       go_wp2_with fail
       refine HC.out.mono ?_
       rintro e W2 ⟨rfl, hp⟩
       have HP := Aside0.mk (hp.after HB1.out hB)
       clear hp HC
       go_wp2_with fail
       go_ret
       exact ⟨rfl, HP.out⟩
      ·have d5 : (o.f0 % 8 == 5) = false := beq_eq_false_iff_ne.2 (by rw [HKD.out]; exact c5)
       by_cases c6 : kd = 6
       ·have d6 : (o.f0 % 8 == 6) = true := by rw [HKD.out, c6]; rfl
        rw [if_neg c0]
        rw [if_neg c1]
        rw [if_neg c2]
        rw [if_neg c3]
        rw [if_neg c4]
        rw [if_neg c5]
        rw [if_pos c6]
        have HC := Aside0.mk (damage_calls H1.out HG.out.fine o.f2 o.f4 o.f5 HWF.out.mask.1 HWF.out.mask.2)
        clear hkb c0 c1 c2 c3 c4 c5 c6
        subst hW1
        go_enter Try.func14, Try.ntmps14
        go_wp2_with fail
        refine HC.out.mono ?_
        rintro e W2 ⟨rfl, hp⟩
        have HP := Aside0.mk (hp.after HB1.out hB)
        clear hp HC
        go_wp2_with fail
        go_ret
        exact ⟨rfl, HP.out⟩
       ·have d6 : (o.f0 % 8 == 6) = false := beq_eq_false_iff_ne.2 (by rw [HKD.out]; exact c6)
        have c7 : kd = 7 := by omega
        rw [if_neg c0]
        rw [if_neg c1]
        rw [if_neg c2]
        rw [if_neg c3]
        rw [if_neg c4]
        rw [if_neg c5]
        rw [if_neg c6]
        have HC := Aside0.mk (return_calls H1.out HG.out.fine o.f2 o.f4)
        clear hkb c0 c1 c2 c3 c4 c5 c6 c7
        subst hW1
        go_enter Try.func14, Try.ntmps14
        go_wp2_with fail
        refine HC.out.mono ?_
        rintro e W2 ⟨rfl, hp⟩
        have HP := Aside0.mk (hp.after HB1.out hB)
        clear hp HC
        go_wp2_with fail
        go_ret
        exact ⟨rfl, HP.out⟩
end Go.Proofs.Ytflajmgichdhhaa.PG
namespace Go.Proofs.Ytflajmgichdhhaa.PG
open Go.RowKit Go.Proofs.YtflajmgichdhhaaW.PrintWords Go.Proofs.YtflajmgichdhhaaW.PrintLast Go.Proofs.YtflajmgichdhhaaW.PrintMore
set_option linter.unusedVariables false
set_option linter.unusedSimpArgs false
open Go.ChangeMaps (setBlock)
attribute [local go_sem] max2_int min2_int max_two min_two
theorem RefAt.re {W W' : World} {ok : Nat → Prop} {w v0 v1 v2 v3 v6 : Value} {fl : List Int} {fu : Int} {sv : List Int} {S : DevS} (hA : RefAt W ok w v0 v1 v2 v3 v6 fl fu sv S) (hb : Below W.heap.size W W') (fa' : Bool) (fu' : Int) (S' : DevS) (e0 : S'.stable = S.stable) (e1 : S'.old = S.old) (e2 : S'.pend = S.pend) (hfa : fa' = S'.failed) (hf : FencesOk fl S'.fences) (hu : FuseOk fu' sv S') :
  RefIs W' (fun k => ok k ∨ W.heap.size ≤ k) (.agg #[v0, v1, v2, v3, .bool fa', .int .i64 fu', v6]) S' := by
 have mv : ∀ {α : Type} {d : Kd α} {e : Nat} {u : Value} {xs : List α}, Kd.V d e W 0 ok u xs → Kd.V d e W' 0 (fun k => ok k ∨ W.heap.size ≤ k) u xs := fun hu => Kd.V_mono (Kd.V_below hu hb) (fun k hk => Or.inl hk)
 exact ⟨_, _, _, _, _, fl, fu', sv, { hv := by rw [hfa], h0 := by rw [e0]; exact mv hA.h0, h1 := by rw [e1]; exact mv hA.h1, h2 := by rw [e2]; exact mv hA.h2, h3 := mv hA.h3, h6 := mv hA.h6, fl5 := hA.fl5, fok := hf, uok := hu }⟩
section
variable {W : World} {ok : Nat → Prop} {v : Value} {S : DevS}
set_option maxRecDepth 100000 in
theorem repair_ref (hR : RefIs W ok v S) : Calls Try.prog 33 #[v] W fun e W' => RChPost ok (repairS S) W e W' := by
 obtain ⟨v0, v1, v2, v3, v6, fl, fu, sv, hA⟩ := id hR
 obtain rfl := hA.hv
 obtain ⟨A0, c0, e0, hl0, hF0⟩ := hA.h0
 obtain ⟨A1, c1, e1, hl1, hF1⟩ := hA.h1
 obtain ⟨A2, c2, e2, hl2, hF2⟩ := hA.h2
 obtain ⟨A3, c3, e3, hl3, hF3⟩ := hA.h3
 obtain ⟨A6, c6, e6, hl6, hF6⟩ := hA.h6
 subst e0 e1 e2 e3 e6
 have HR := Aside0.mk hR
 have HA := Aside0.mk hA
 have HF0 := Aside0.mk hF0
 have HF1 := Aside0.mk hF1
 have HF2 := Aside0.mk hF2
 have HF3 := Aside0.mk hF3
 obtain ⟨n0, hn0⟩ : ∃ n0, n0 = S.stable.length := ⟨_, rfl⟩
 obtain ⟨n1, hn1⟩ : ∃ n1, n1 = S.old.length := ⟨_, rfl⟩
 obtain ⟨n2, hn2⟩ : ∃ n2, n2 = S.pend.length := ⟨_, rfl⟩
 obtain ⟨n3, hn3⟩ : ∃ n3, n3 = fl.length := ⟨_, rfl⟩
 obtain ⟨n6, hn6⟩ : ∃ n6, n6 = sv.length := ⟨_, rfl⟩
 obtain ⟨fa, hfa⟩ : ∃ fa, fa = S.failed := ⟨_, rfl⟩
 have EQ := Aside0.mk (show n0 = S.stable.length ∧ n1 = S.old.length ∧ n2 = S.pend.length ∧ n3 = fl.length ∧ n6 = sv.length ∧ fa = S.failed from ⟨hn0, hn1, hn2, hn3, hn6, hfa⟩)
 rw [← hn0, ← hn1, ← hn2, ← hn3, ← hn6, ← hfa]
 rw [← hn0, ← hn1, ← hn2, ← hn3, ← hn6, ← hfa] at HR
 clear hR hA hF0 hF1 hF2 hF3 hF6 hl0 hl1 hl2 hl3 hl6 hn0 hn1 hn2 hn3 hn6 hfa
 go_enter Try.func33, Try.ntmps33
 go_wp2_with fail
 have hx2 : ((W.alloc (.cells #[.slice A0 n0 c0, .slice A1 n1 c1, .slice A2 n2 c2, .slice A3 n3 c3, .bool false, .int .i64 (-1), .slice A6 n6 c6] 31)).alloc (.cells #[.slice A0 n0 c0, .slice A1 n1 c1, .slice A2 n2 c2, .slice A3 n3 c3, .bool false, .int .i64 (-1), .slice A6 n6 c6] 31)).heap[W.heap.size + 1]? = some (.cells #[.slice A0 n0 c0, .slice A1 n1 c1, .slice A2 n2 c2, .slice A3 n3 c3, .bool false, .int .i64 (-1), .slice A6 n6 c6] 31 (0, 0)) := by
  rw [show W.heap.size + 1 = (W.alloc (.cells #[.slice A0 n0 c0, .slice A1 n1 c1, .slice A2 n2 c2, .slice A3 n3 c3, .bool false, .int .i64 (-1), .slice A6 n6 c6] 31)).heap.size by simp]; exact blk_new _ _
 have hb2 : Below W.heap.size W ((W.alloc (.cells #[.slice A0 n0 c0, .slice A1 n1 c1, .slice A2 n2 c2, .slice A3 n3 c3, .bool false, .int .i64 (-1), .slice A6 n6 c6] 31)).alloc (.cells #[.slice A0 n0 c0, .slice A1 n1 c1, .slice A2 n2 c2, .slice A3 n3 c3, .bool false, .int .i64 (-1), .slice A6 n6 c6] 31)) := below_alloc (below_alloc (Below.refl _ _) _) _
 refine bodyPost_ret (results_c rfl _ _ (W.heap.size + 1) 31 #[.slice A0 n0 c0, .slice A1 n1 c1, .slice A2 n2 c2, .slice A3 n3 c3, .bool false, .int .i64 (-1), .slice A6 n6 c6] (0, 0) _ rfl hx2 Try.underlying31 rfl (by kernel_rfl)) rfl ?_
 refine ⟨_, rfl, ?_, hb2⟩
 obtain ⟨rfl, rfl, rfl, rfl, rfl, rfl⟩ := EQ.out
 exact HA.out.re hb2 false (-1) (repairS S) rfl rfl rfl rfl HA.out.fok ⟨fun _ => rfl, fun z => by cases z⟩
set_option maxRecDepth 100000 in
theorem failafter_ref (hR : RefIs W ok v S) (n : Int) (A : Option Addr) (c : Nat) (l : List Int) (hC : Kd.C (Kd.int .i64) W A l.length l) (hl : l.length ≤ 1000000) : Calls Try.prog 32 #[v, .int .i64 n, .slice A l.length c] W fun e W' => RChPost ok (failS S n l) W e W' := by
 have HC := Aside0.mk hC
 unfold failS
 obtain ⟨v0, v1, v2, v3, v6, fl, fu, sv, hA⟩ := id hR
 obtain rfl := hA.hv
 obtain ⟨A0, c0, e0, hl0, hF0⟩ := hA.h0
 obtain ⟨A1, c1, e1, hl1, hF1⟩ := hA.h1
 obtain ⟨A2, c2, e2, hl2, hF2⟩ := hA.h2
 obtain ⟨A3, c3, e3, hl3, hF3⟩ := hA.h3
 obtain ⟨A6, c6, e6, hl6, hF6⟩ := hA.h6
 subst e0 e1 e2 e3 e6
 have HR := Aside0.mk hR
 have HA := Aside0.mk hA
 have HF0 := Aside0.mk hF0
 have HF1 := Aside0.mk hF1
 have HF2 := Aside0.mk hF2
 have HF3 := Aside0.mk hF3
 obtain ⟨n0, hn0⟩ : ∃ n0, n0 = S.stable.length := ⟨_, rfl⟩
 obtain ⟨n1, hn1⟩ : ∃ n1, n1 = S.old.length := ⟨_, rfl⟩
 obtain ⟨n2, hn2⟩ : ∃ n2, n2 = S.pend.length := ⟨_, rfl⟩
 obtain ⟨n3, hn3⟩ : ∃ n3, n3 = fl.length := ⟨_, rfl⟩
 obtain ⟨n6, hn6⟩ : ∃ n6, n6 = sv.length := ⟨_, rfl⟩
 obtain ⟨fa, hfa⟩ : ∃ fa, fa = S.failed := ⟨_, rfl⟩
 have EQ := Aside0.mk (show n0 = S.stable.length ∧ n1 = S.old.length ∧ n2 = S.pend.length ∧ n3 = fl.length ∧ n6 = sv.length ∧ fa = S.failed from ⟨hn0, hn1, hn2, hn3, hn6, hfa⟩)
 rw [← hn0, ← hn1, ← hn2, ← hn3, ← hn6, ← hfa]
 rw [← hn0, ← hn1, ← hn2, ← hn3, ← hn6, ← hfa] at HR
 clear hR hA hF0 hF1 hF2 hF3 hF6 hl0 hl1 hl2 hl3 hl6 hn0 hn1 hn2 hn3 hn6 hfa
 clear hC
 cases fa with
 | true =>
  rw [if_pos rfl]
  go_enter Try.func32, Try.ntmps32
  go_wp2_with fail
  have hx2 : ((W.alloc (.cells #[.slice A0 n0 c0, .slice A1 n1 c1, .slice A2 n2 c2, .slice A3 n3 c3, .bool true, .int .i64 fu, .slice A6 n6 c6] 31)).alloc (.cells #[.slice A0 n0 c0, .slice A1 n1 c1, .slice A2 n2 c2, .slice A3 n3 c3, .bool true, .int .i64 fu, .slice A6 n6 c6] 31)).heap[W.heap.size + 1]? = some (.cells #[.slice A0 n0 c0, .slice A1 n1 c1, .slice A2 n2 c2, .slice A3 n3 c3, .bool true, .int .i64 fu, .slice A6 n6 c6] 31 (0, 0)) := by
   rw [show W.heap.size + 1 = (W.alloc (.cells #[.slice A0 n0 c0, .slice A1 n1 c1, .slice A2 n2 c2, .slice A3 n3 c3, .bool true, .int .i64 fu, .slice A6 n6 c6] 31)).heap.size by simp]; exact blk_new _ _
  have hb2 : Below W.heap.size W ((W.alloc (.cells #[.slice A0 n0 c0, .slice A1 n1 c1, .slice A2 n2 c2, .slice A3 n3 c3, .bool true, .int .i64 fu, .slice A6 n6 c6] 31)).alloc (.cells #[.slice A0 n0 c0, .slice A1 n1 c1, .slice A2 n2 c2, .slice A3 n3 c3, .bool true, .int .i64 fu, .slice A6 n6 c6] 31)) := below_alloc (below_alloc (Below.refl _ _) _) _
  refine bodyPost_ret (results_c rfl _ _ (W.heap.size + 1) 31 #[.slice A0 n0 c0, .slice A1 n1 c1, .slice A2 n2 c2, .slice A3 n3 c3, .bool true, .int .i64 fu, .slice A6 n6 c6] (0, 0) _ rfl hx2 Try.underlying31 rfl (by kernel_rfl)) rfl ?_
  refine ⟨_, rfl, ?_, hb2⟩
  exact (HR.out.below hb2).mono (fun k hk _ => Or.inl hk)
 | false =>
  rw [if_neg (by simp)]
  have ways : (n < 0 ∧ max 0 n = 0) ∨ (¬ n < 0 ∧ max 0 n = n) := by omega
  obtain ⟨nl, hnl⟩ : ∃ nl, nl = l.length := ⟨_, rfl⟩
  rw [← hnl]
  rw [← hnl] at hl HC
  have HNL := Aside0.mk hnl
  clear hnl
  rcases ways with ⟨hn, hm⟩ | ⟨hn, hm⟩
  ·rw [hm]
   have HM := Aside0.mk hn
   clear hm
   go_enter Try.func32, Try.ntmps32
   go_wp2_with ((with_reducible refine gate_dst (N := 14) rfl ?_); refine stopHere ?_)
   obtain ⟨f0, f1, f2, fb⟩ := three W (.cells #[.slice A0 n0 c0, .slice A1 n1 c1, .slice A2 n2 c2, .slice A3 n3 c3, .bool false, .int .i64 fu, .slice A6 n6 c6] 31) (.cells #[.slice none 0 0, .slice none 0 0, .slice none 0 0, .slice none 0 0, .bool false, .int .i64 0, .slice none 0 0] 31) (.cells #[] 3)
   obtain ⟨w3, hw3⟩ : ∃ w3, w3 = ((W.alloc (.cells #[.slice A0 n0 c0, .slice A1 n1 c1, .slice A2 n2 c2, .slice A3 n3 c3, .bool false, .int .i64 fu, .slice A6 n6 c6] 31)).alloc (.cells #[.slice none 0 0, .slice none 0 0, .slice none 0 0, .slice none 0 0, .bool false, .int .i64 0, .slice none 0 0] 31)).alloc (.cells #[] 3) := ⟨_, rfl⟩
   rw [← hw3] at f0 f1 f2 fb ⊢
   obtain ⟨bx, hbx⟩ : ∃ bx, bx = W.heap.size := ⟨_, rfl⟩
   obtain ⟨rb, hrb⟩ : ∃ rb, rb = W.heap.size + 1 := ⟨_, rfl⟩
   obtain ⟨e0, he0⟩ : ∃ e0, e0 = W.heap.size + 1 + 1 := ⟨_, rfl⟩
   rw [← he0] at f2 ⊢
   rw [← hrb] at f1 ⊢
   rw [show (Value.pointer (some ⟨W.heap.size, 0, none⟩)) = .pointer (some ⟨bx, 0, none⟩) by rw [hbx]]
   rw [← hbx] at f0
   have LB := Aside0.mk (show W.heap.size ≤ bx ∧ W.heap.size ≤ rb ∧ W.heap.size ≤ e0 ∧ bx ≠ rb ∧ bx ≠ e0 ∧ rb ≠ e0 from ⟨by omega, by omega, by omega, by omega, by omega, by omega⟩)
   clear hw3 hbx hrb he0
   refine ⟨?_⟩
   refine Kd.R_append_rows (Kd.int .i64) (w0 := W) W.heap.size rfl (.tmp 12) (.tmp 13) 29 3 (.int .i64 0) 8 rfl Try.underlying29 info3 rfl (by decide) (by omega) _ [] l A nl c (fun k => W.heap.size ≤ k) (fun _ => False) rfl rfl (empty_own' f2 LB.out.2.2.1) (Kd.C_below HC.out fb) (fun _ _ h => h) (fun _ h => h.elim) (fun k hk => Nat.le_trans fb.size hk) fb fb.size (by simp; omega) ?_
   intro v1 w4 hR1 hb4 hg4 hat4
   rw [List.nil_append] at hR1
   obtain ⟨A9, c9, hv1⟩ := Kd.R_slice hR1
   rw [← HNL.out] at hv1
   subst hv1
   have f0 : w4.heap[bx]? = some (.cells #[.slice A0 n0 c0, .slice A1 n1 c1, .slice A2 n2 c2, .slice A3 n3 c3, .bool false, .int .i64 fu, .slice A6 n6 c6] 31 (0, 0)) := (hg4.block bx (blk_lt f0) (fun e => LB.out.2.2.2.2.1 (Option.some.inj e))).trans f0
   have f1 : w4.heap[rb]? = some (.cells #[.slice none 0 0, .slice none 0 0, .slice none 0 0, .slice none 0 0, .bool false, .int .i64 0, .slice none 0 0] 31 (0, 0)) := (hg4.block rb (blk_lt f1) (fun e => LB.out.2.2.2.2.2 (Option.some.inj e))).trans f1
   obtain ⟨k0, k1, k2, k3, k4, k5, k6⟩ := cells7 f0
   obtain ⟨z0, z1, z2, z3, z4, z5, z6⟩ := froz7 f0
   obtain ⟨r0, r1, r2, r3, r4, r5, r6⟩ := cells7 f1
   obtain ⟨s0, s1, s2, s3, s4, s5, s6⟩ := froz7 f1
   have ne1 : bx ≠ rb := LB.out.2.2.2.1
   have ne2 : rb ≠ bx := fun e => ne1 e.symm
   have F0 := Aside0.mk f0
   have F1 := Aside0.mk f1
   have HR1 := Aside0.mk hR1
   have HB4 := Aside0.mk hb4
   clear f0 f1 f2 fb hR1 hb4 hg4 hat4
   go_wp2_with fail
   have hB1 : ((w4.setCell ⟨bx, 5, none⟩ (.int .i64 0)).setCell ⟨bx, 6, none⟩ (.slice A9 nl c9)).heap[rb]? = some (.cells #[.slice none 0 0, .slice none 0 0, .slice none 0 0, .slice none 0 0, .bool false, .int .i64 0, .slice none 0 0] 31 (0, 0)) := (Below.heap_setCell _ _ _ _ ne2).trans ((Below.heap_setCell _ _ _ _ ne2).trans F1.out)
   have hbB : Below W.heap.size W ((w4.setCell ⟨bx, 5, none⟩ (.int .i64 0)).setCell ⟨bx, 6, none⟩ (.slice A9 nl c9)) := (HB4.out.setCell (p := ⟨bx, 5, none⟩) LB.out.1 _).setCell (p := ⟨bx, 6, none⟩) LB.out.1 _
   have hbC := set7_below hbB LB.out.2.1 (.slice A0 n0 c0) (.slice A1 n1 c1) (.slice A2 n2 c2) (.slice A3 n3 c3) (.bool false) (.int .i64 0) (.slice A9 nl c9)
   refine bodyPost_ret (results_c rfl _ _ rb 31 #[.slice A0 n0 c0, .slice A1 n1 c1, .slice A2 n2 c2, .slice A3 n3 c3, .bool false, .int .i64 0, .slice A9 nl c9] (0, 0) _ rfl (set7_blk hB1 (.slice A0 n0 c0) (.slice A1 n1 c1) (.slice A2 n2 c2) (.slice A3 n3 c3) (.bool false) (.int .i64 0) (.slice A9 nl c9)) Try.underlying31 rfl (by kernel_rfl)) rfl ?_
   refine ⟨_, rfl, ?_, hbC⟩
   have hf : ∀ k, k ≠ bx → k ≠ rb → (set7 ((w4.setCell ⟨bx, 5, none⟩ (.int .i64 0)).setCell ⟨bx, 6, none⟩ (.slice A9 nl c9)) rb (.slice A0 n0 c0) (.slice A1 n1 c1) (.slice A2 n2 c2) (.slice A3 n3 c3) (.bool false) (.int .i64 0) (.slice A9 nl c9)).heap[k]? = w4.heap[k]? := fun k h1 h2 => (set7_far _ rb (.slice A0 n0 c0) (.slice A1 n1 c1) (.slice A2 n2 c2) (.slice A3 n3 c3) (.bool false) (.int .i64 0) (.slice A9 nl c9) k h2).trans ((Below.heap_setCell _ _ _ _ h1).trans (Below.heap_setCell _ _ _ _ h1))
   have hV := Kd.V_mono (Kd.R_V (base' := 0) (Kd.R_step (Kd.R_types (Kd.R_types HR1.out F0.out (by decide)) F1.out (by decide)) (fun k hk _ => hf k hk.1.2 hk.2))) (ok' := fun k => ok k ∨ W.heap.size ≤ k) (fun k hk => Or.inr hk.1.1)
   have mv : ∀ {α : Type} {d : Kd α} {e : Nat} {u : Value} {xs : List α}, Kd.V d e W 0 ok u xs → Kd.V d e (set7 ((w4.setCell ⟨bx, 5, none⟩ (.int .i64 0)).setCell ⟨bx, 6, none⟩ (.slice A9 nl c9)) rb (.slice A0 n0 c0) (.slice A1 n1 c1) (.slice A2 n2 c2) (.slice A3 n3 c3) (.bool false) (.int .i64 0) (.slice A9 nl c9)) 0 (fun k => ok k ∨ W.heap.size ≤ k) u xs := fun hu => Kd.V_mono (Kd.V_below hu hbC) (fun k hk => Or.inl hk)
   obtain ⟨q0, q1, q2, q3, q4, q5⟩ := EQ.out
   have hA := HA.out
   rw [← q0, ← q1, ← q2, ← q3] at hA
   exact ⟨_, _, _, _, _, fl, 0, l, { hv := rfl, h0 := mv hA.h0, h1 := mv hA.h1, h2 := mv hA.h2, h3 := mv hA.h3, h6 := hV, fl5 := hA.fl5, fok := hA.fok, uok := ⟨(fun z => by cases z), fun _ => ⟨rfl, rfl⟩⟩ }⟩
  ·rw [hm]
   have HM := Aside0.mk hn
   clear hm
   go_enter Try.func32, Try.ntmps32
   go_wp2_with ((with_reducible refine gate_dst (N := 14) rfl ?_); refine stopHere ?_)
   obtain ⟨f0, f1, f2, fb⟩ := three W (.cells #[.slice A0 n0 c0, .slice A1 n1 c1, .slice A2 n2 c2, .slice A3 n3 c3, .bool false, .int .i64 fu, .slice A6 n6 c6] 31) (.cells #[.slice none 0 0, .slice none 0 0, .slice none 0 0, .slice none 0 0, .bool false, .int .i64 0, .slice none 0 0] 31) (.cells #[] 3)
   obtain ⟨w3, hw3⟩ : ∃ w3, w3 = ((W.alloc (.cells #[.slice A0 n0 c0, .slice A1 n1 c1, .slice A2 n2 c2, .slice A3 n3 c3, .bool false, .int .i64 fu, .slice A6 n6 c6] 31)).alloc (.cells #[.slice none 0 0, .slice none 0 0, .slice none 0 0, .slice none 0 0, .bool false, .int .i64 0, .slice none 0 0] 31)).alloc (.cells #[] 3) := ⟨_, rfl⟩
   rw [← hw3] at f0 f1 f2 fb ⊢
   obtain ⟨bx, hbx⟩ : ∃ bx, bx = W.heap.size := ⟨_, rfl⟩
   obtain ⟨rb, hrb⟩ : ∃ rb, rb = W.heap.size + 1 := ⟨_, rfl⟩
   obtain ⟨e0, he0⟩ : ∃ e0, e0 = W.heap.size + 1 + 1 := ⟨_, rfl⟩
   rw [← he0] at f2 ⊢
   rw [← hrb] at f1 ⊢
   rw [show (Value.pointer (some ⟨W.heap.size, 0, none⟩)) = .pointer (some ⟨bx, 0, none⟩) by rw [hbx]]
   rw [← hbx] at f0
   have LB := Aside0.mk (show W.heap.size ≤ bx ∧ W.heap.size ≤ rb ∧ W.heap.size ≤ e0 ∧ bx ≠ rb ∧ bx ≠ e0 ∧ rb ≠ e0 from ⟨by omega, by omega, by omega, by omega, by omega, by omega⟩)
   clear hw3 hbx hrb he0
   refine ⟨?_⟩
   refine Kd.R_append_rows (Kd.int .i64) (w0 := W) W.heap.size rfl (.tmp 12) (.tmp 13) 29 3 (.int .i64 0) 8 rfl Try.underlying29 info3 rfl (by decide) (by omega) _ [] l A nl c (fun k => W.heap.size ≤ k) (fun _ => False) rfl rfl (empty_own' f2 LB.out.2.2.1) (Kd.C_below HC.out fb) (fun _ _ h => h) (fun _ h => h.elim) (fun k hk => Nat.le_trans fb.size hk) fb fb.size (by simp; omega) ?_
   intro v1 w4 hR1 hb4 hg4 hat4
   rw [List.nil_append] at hR1
   obtain ⟨A9, c9, hv1⟩ := Kd.R_slice hR1
   rw [← HNL.out] at hv1
   subst hv1
   have f0 : w4.heap[bx]? = some (.cells #[.slice A0 n0 c0, .slice A1 n1 c1, .slice A2 n2 c2, .slice A3 n3 c3, .bool false, .int .i64 fu, .slice A6 n6 c6] 31 (0, 0)) := (hg4.block bx (blk_lt f0) (fun e => LB.out.2.2.2.2.1 (Option.some.inj e))).trans f0
   have f1 : w4.heap[rb]? = some (.cells #[.slice none 0 0, .slice none 0 0, .slice none 0 0, .slice none 0 0, .bool false, .int .i64 0, .slice none 0 0] 31 (0, 0)) := (hg4.block rb (blk_lt f1) (fun e => LB.out.2.2.2.2.2 (Option.some.inj e))).trans f1
   obtain ⟨k0, k1, k2, k3, k4, k5, k6⟩ := cells7 f0
   obtain ⟨z0, z1, z2, z3, z4, z5, z6⟩ := froz7 f0
   obtain ⟨r0, r1, r2, r3, r4, r5, r6⟩ := cells7 f1
   obtain ⟨s0, s1, s2, s3, s4, s5, s6⟩ := froz7 f1
   have ne1 : bx ≠ rb := LB.out.2.2.2.1
   have ne2 : rb ≠ bx := fun e => ne1 e.symm
   have F0 := Aside0.mk f0
   have F1 := Aside0.mk f1
   have HR1 := Aside0.mk hR1
   have HB4 := Aside0.mk hb4
   clear f0 f1 f2 fb hR1 hb4 hg4 hat4
   go_wp2_with fail
   have hB1 : ((w4.setCell ⟨bx, 5, none⟩ (.int .i64 n)).setCell ⟨bx, 6, none⟩ (.slice A9 nl c9)).heap[rb]? = some (.cells #[.slice none 0 0, .slice none 0 0, .slice none 0 0, .slice none 0 0, .bool false, .int .i64 0, .slice none 0 0] 31 (0, 0)) := (Below.heap_setCell _ _ _ _ ne2).trans ((Below.heap_setCell _ _ _ _ ne2).trans F1.out)
   have hbB : Below W.heap.size W ((w4.setCell ⟨bx, 5, none⟩ (.int .i64 n)).setCell ⟨bx, 6, none⟩ (.slice A9 nl c9)) := (HB4.out.setCell (p := ⟨bx, 5, none⟩) LB.out.1 _).setCell (p := ⟨bx, 6, none⟩) LB.out.1 _
   have hbC := set7_below hbB LB.out.2.1 (.slice A0 n0 c0) (.slice A1 n1 c1) (.slice A2 n2 c2) (.slice A3 n3 c3) (.bool false) (.int .i64 n) (.slice A9 nl c9)
   refine bodyPost_ret (results_c rfl _ _ rb 31 #[.slice A0 n0 c0, .slice A1 n1 c1, .slice A2 n2 c2, .slice A3 n3 c3, .bool false, .int .i64 n, .slice A9 nl c9] (0, 0) _ rfl (set7_blk hB1 (.slice A0 n0 c0) (.slice A1 n1 c1) (.slice A2 n2 c2) (.slice A3 n3 c3) (.bool false) (.int .i64 n) (.slice A9 nl c9)) Try.underlying31 rfl (by kernel_rfl)) rfl ?_
   refine ⟨_, rfl, ?_, hbC⟩
   have hf : ∀ k, k ≠ bx → k ≠ rb → (set7 ((w4.setCell ⟨bx, 5, none⟩ (.int .i64 n)).setCell ⟨bx, 6, none⟩ (.slice A9 nl c9)) rb (.slice A0 n0 c0) (.slice A1 n1 c1) (.slice A2 n2 c2) (.slice A3 n3 c3) (.bool false) (.int .i64 n) (.slice A9 nl c9)).heap[k]? = w4.heap[k]? := fun k h1 h2 => (set7_far _ rb (.slice A0 n0 c0) (.slice A1 n1 c1) (.slice A2 n2 c2) (.slice A3 n3 c3) (.bool false) (.int .i64 n) (.slice A9 nl c9) k h2).trans ((Below.heap_setCell _ _ _ _ h1).trans (Below.heap_setCell _ _ _ _ h1))
   have hV := Kd.V_mono (Kd.R_V (base' := 0) (Kd.R_step (Kd.R_types (Kd.R_types HR1.out F0.out (by decide)) F1.out (by decide)) (fun k hk _ => hf k hk.1.2 hk.2))) (ok' := fun k => ok k ∨ W.heap.size ≤ k) (fun k hk => Or.inr hk.1.1)
   have mv : ∀ {α : Type} {d : Kd α} {e : Nat} {u : Value} {xs : List α}, Kd.V d e W 0 ok u xs → Kd.V d e (set7 ((w4.setCell ⟨bx, 5, none⟩ (.int .i64 n)).setCell ⟨bx, 6, none⟩ (.slice A9 nl c9)) rb (.slice A0 n0 c0) (.slice A1 n1 c1) (.slice A2 n2 c2) (.slice A3 n3 c3) (.bool false) (.int .i64 n) (.slice A9 nl c9)) 0 (fun k => ok k ∨ W.heap.size ≤ k) u xs := fun hu => Kd.V_mono (Kd.V_below hu hbC) (fun k hk => Or.inl hk)
   obtain ⟨q0, q1, q2, q3, q4, q5⟩ := EQ.out
   have hA := HA.out
   rw [← q0, ← q1, ← q2, ← q3] at hA
   exact ⟨_, _, _, _, _, fl, n, l, { hv := rfl, h0 := mv hA.h0, h1 := mv hA.h1, h2 := mv hA.h2, h3 := mv hA.h3, h6 := hV, fl5 := hA.fl5, fok := hA.fok, uok := ⟨(fun z => by cases z), fun _ => ⟨rfl, rfl⟩⟩ }⟩
end
end Go.Proofs.Ytflajmgichdhhaa.PG
namespace Go.Proofs.Ytflajmgichdhhaa.PG
open Go.RowKit Go.Proofs.YtflajmgichdhhaaW.PrintWords Go.Proofs.YtflajmgichdhhaaW.PrintLast Go.Proofs.YtflajmgichdhhaaW.PrintMore
set_option linter.unusedVariables false
set_option linter.unusedSimpArgs false
section
variable {W : World} {ok : Nat → Prop} {v : Value} {S : DevS}
set_option maxRecDepth 100000 in
theorem fenced_ref (hR : RefIs W ok v S) (sys ep : Int) (h1 : 1 ≤ sys) (h4 : sys ≤ 4) (he0 : 0 ≤ ep) (he1 : ep ≤ 1099511627776) :
  Calls Try.prog 55 #[v, .agg #[.int .i64 sys, .int .i64 ep]] W fun e W' => e = .returned (.bool (fencedS S sys ep)) ∧ Below W.heap.size W W' := by
 obtain ⟨v0, v1, v2, v3, v6, fl, fu, sv, hA⟩ := id hR
 obtain rfl := hA.hv
 obtain ⟨A0, c0, e0, hl0, hF0⟩ := hA.h0
 obtain ⟨A1, c1, e1, hl1, hF1⟩ := hA.h1
 obtain ⟨A2, c2, e2, hl2, hF2⟩ := hA.h2
 obtain ⟨A3, c3, e3, hl3, hF3⟩ := hA.h3
 obtain ⟨A6, c6, e6, hl6, hF6⟩ := hA.h6
 subst e0 e1 e2 e3 e6
 have HR := Aside0.mk hR
 have HA := Aside0.mk hA
 have HF0 := Aside0.mk hF0
 have HF1 := Aside0.mk hF1
 have HF2 := Aside0.mk hF2
 have HF3 := Aside0.mk hF3
 obtain ⟨n0, hn0⟩ : ∃ n0, n0 = S.stable.length := ⟨_, rfl⟩
 obtain ⟨n1, hn1⟩ : ∃ n1, n1 = S.old.length := ⟨_, rfl⟩
 obtain ⟨n2, hn2⟩ : ∃ n2, n2 = S.pend.length := ⟨_, rfl⟩
 obtain ⟨n3, hn3⟩ : ∃ n3, n3 = fl.length := ⟨_, rfl⟩
 obtain ⟨n6, hn6⟩ : ∃ n6, n6 = sv.length := ⟨_, rfl⟩
 obtain ⟨fa, hfa⟩ : ∃ fa, fa = S.failed := ⟨_, rfl⟩
 have EQ := Aside0.mk (show n0 = S.stable.length ∧ n1 = S.old.length ∧ n2 = S.pend.length ∧ n3 = fl.length ∧ n6 = sv.length ∧ fa = S.failed from ⟨hn0, hn1, hn2, hn3, hn6, hfa⟩)
 rw [← hn0, ← hn1, ← hn2, ← hn3, ← hn6, ← hfa]
 rw [← hn0, ← hn1, ← hn2, ← hn3, ← hn6, ← hfa] at HR
 clear hR hA hF0 hF1 hF2 hF3 hF6 hl0 hl1 hl2 hl3 hl6 hn0 hn1 hn2 hn3 hn6 hfa
 have hl5 : n3 = 5 := by rw [EQ.out.2.2.2.1]; exact HA.out.fl5
 obtain ⟨adf, ef, y0⟩ := Kd.at_int (Kd.F_now HF3.out) sys (by omega) (by have := EQ.out.2.2.2.1; omega)
 have hyb := World.block_lt_of_cell? W _ y0
 have hyb0 : adf.block < W.heap.size := by
  have e : (adf.add sys.toNat).block = adf.block := by unfold Addr.add; split <;> rfl
  rw [e] at hyb; exact hyb
 have hrd : rd fl sys = fl.getD sys.toNat 0 := by unfold rd; rfl
 rw [hrd] at y0
 obtain ⟨q0, q1, q2⟩ := HA.out.fok sys.toNat (by omega) (by omega)
 have hq := q2 ep he0 he1
 rw [show ((sys.toNat : Nat) : Int) = sys by omega] at hq
 obtain ⟨x, hx⟩ : ∃ x, x = fl.getD sys.toNat 0 := ⟨_, rfl⟩
 rw [← hx] at y0 hq
 have hv : fencedS S sys ep = decide (ep < x) := by
  unfold fencedS
  cases hx : S.fences sys with
  | none =>
   rw [hx] at hq
   have : ¬ ep < x := fun z => by obtain ⟨f, a, _⟩ := hq.1 z; cases a
   simp [this]
  | some f =>
   rw [hx] at hq
   by_cases h : ep ≤ f
   ·have := hq.2 ⟨f, rfl, h⟩
    simp [h, this]
   ·have : ¬ ep < x := fun z => by obtain ⟨f', a, b⟩ := hq.1 z; cases a; exact h b
    simp [h, this]
 rw [hv]
 subst ef
 obtain ⟨s, rfl⟩ := Int.eq_ofNat_of_zero_le (show 0 ≤ sys by omega)
 rw [Int.toNat_natCast] at y0 hyb
 have hs5 : (s : Int) < (n3 : Int) := by omega
 have hs5n : s < n3 := by omega
 clear hrd q0 q1 q2 hq hv hx hl5
 go_enter Try.func55, Try.ntmps55
 go_wp2_with fail
 go_quiet (fail)
 go_wp2_with fail
 go_ret
 exact ⟨rfl, below_drewN (below_alloc (below_alloc (Below.refl _ _) _) _) _⟩
theorem change_blown (n : Nat) (d : ByteArray) (S : DevS) : changeS n d (blown S) = blown (changeS n d S) := by
 by_cases h : S.stable.getD n ⟨#[]⟩ = d
 ·have h' : (blown S).stable.getD n ⟨#[]⟩ = d := h
  unfold changeS
  rw [if_pos h', if_pos h]
 ·have h' : ¬ (blown S).stable.getD n ⟨#[]⟩ = d := h
  unfold changeS
  rw [if_neg h', if_neg h]
  rfl
theorem endF_blown (p : S99 → Bool) (l : List Int) : ∀ (ws : List S99) (k : Nat) (S : DevS), endF p l ws (k, blown S) = ((endF p l ws (k, S)).1, blown (endF p l ws (k, S)).2)
 | [], _, _ => rfl
 | w :: ws, k, S => by
  show endF p l ws (endStep p l (k, blown S) w) = ((endF p l ws (endStep p l (k, S) w)).1, blown (endF p l ws (endStep p l (k, S) w)).2)
  have h : endStep p l (k, blown S) w = ((endStep p l (k, S) w).1, blown (endStep p l (k, S) w).2) := by
   unfold endStep
   split
   ·show (k + 1, endOne l k w (blown S)) = (k + 1, blown (endOne l k w S))
    unfold endOne
    rw [change_blown]
    rfl
   ·rfl
  rw [h]
  exact endF_blown p l ws _ _
theorem finish_blown (p : S99 → Bool) (l : List Int) (S : DevS) : finishS p l (blown S) = blown (finishS p l S) := by
 unfold finishS
 rw [endF_blown]
 rfl
def useS (S : DevS) : Bool × DevS := if S.fset = false then (false, S) else if 0 < S.left then (false, { S with left := S.left - 1 }) else (true, finishS isAny S.surv (blown S))
theorem admit_use (S : DevS) (sys ep : Int) (h1 : S.failed = false) (h2 : fencedS S sys ep = false) : admitS S sys ep = (if (useS S).1 = true then 10 else 0, (useS S).2) := by
 unfold admitS useS
 rw [if_neg (by rw [h1]; simp), if_neg (by rw [h2]; simp)]
 split
 ·rfl
 ·split <;> rfl
def UsePost (ok : Nat → Prop) (S : DevS) (W : World) (e : Ending) (W' : World) : Prop := ∃ v, e = .returned (.tuple #[v, .bool (useS S).1]) ∧ RefIs W' (fun k => ok k ∨ W.heap.size ≤ k) v (useS S).2 ∧ Below W.heap.size W W'
attribute [local go_sem] max2_int min2_int max_two min_two
set_option maxRecDepth 100000 in
set_option maxHeartbeats 4000000 in
theorem use_ref {k : Nat} (hR : RefIs W ok v S) (hG : Good k S) (hk : k ≤ 1000000) : Calls Try.prog 56 #[v] W fun e W' => UsePost ok S W e W' := by
 have HG := Aside0.mk hG
 have hl0 := hG.fine.l0
 clear hG
 obtain ⟨v0, v1, v2, v3, v6, fl, fu, sv, hA⟩ := id hR
 obtain rfl := hA.hv
 obtain ⟨A0, c0, e0, hl0, hF0⟩ := hA.h0
 obtain ⟨A1, c1, e1, hl1, hF1⟩ := hA.h1
 obtain ⟨A2, c2, e2, hl2, hF2⟩ := hA.h2
 obtain ⟨A3, c3, e3, hl3, hF3⟩ := hA.h3
 obtain ⟨A6, c6, e6, hl6, hF6⟩ := hA.h6
 subst e0 e1 e2 e3 e6
 have HR := Aside0.mk hR
 have HA := Aside0.mk hA
 have HF0 := Aside0.mk hF0
 have HF1 := Aside0.mk hF1
 have HF2 := Aside0.mk hF2
 have HF3 := Aside0.mk hF3
 obtain ⟨n0, hn0⟩ : ∃ n0, n0 = S.stable.length := ⟨_, rfl⟩
 obtain ⟨n1, hn1⟩ : ∃ n1, n1 = S.old.length := ⟨_, rfl⟩
 obtain ⟨n2, hn2⟩ : ∃ n2, n2 = S.pend.length := ⟨_, rfl⟩
 obtain ⟨n3, hn3⟩ : ∃ n3, n3 = fl.length := ⟨_, rfl⟩
 obtain ⟨n6, hn6⟩ : ∃ n6, n6 = sv.length := ⟨_, rfl⟩
 obtain ⟨fa, hfa⟩ : ∃ fa, fa = S.failed := ⟨_, rfl⟩
 have EQ := Aside0.mk (show n0 = S.stable.length ∧ n1 = S.old.length ∧ n2 = S.pend.length ∧ n3 = fl.length ∧ n6 = sv.length ∧ fa = S.failed from ⟨hn0, hn1, hn2, hn3, hn6, hfa⟩)
 rw [← hn0, ← hn1, ← hn2, ← hn3, ← hn6, ← hfa]
 rw [← hn0, ← hn1, ← hn2, ← hn3, ← hn6, ← hfa] at HR
 have hF6k := hF6
 have hl6k := hl6
 clear hR hA hF0 hF1 hF2 hF3 hF6 hl0 hl1 hl2 hl3 hl6 hn0 hn1 hn2 hn3 hn6 hfa
 cases hfs : S.fset with
 | false =>
  have hu : useS S = (false, S) := by unfold useS; rw [if_pos hfs]
  have hm1 := HA.out.uok.1 hfs
  unfold UsePost
  rw [hu]
  clear hu hfs
  subst hm1
  go_enter Try.func56, Try.ntmps56
  go_wp2_with fail
  have hx2 : ((W.alloc (.cells #[.slice A0 n0 c0, .slice A1 n1 c1, .slice A2 n2 c2, .slice A3 n3 c3, .bool fa, .int .i64 (-1), .slice A6 n6 c6] 31)).alloc (.cells #[.slice A0 n0 c0, .slice A1 n1 c1, .slice A2 n2 c2, .slice A3 n3 c3, .bool fa, .int .i64 (-1), .slice A6 n6 c6] 31)).heap[W.heap.size + 1]? = some (.cells #[.slice A0 n0 c0, .slice A1 n1 c1, .slice A2 n2 c2, .slice A3 n3 c3, .bool fa, .int .i64 (-1), .slice A6 n6 c6] 31 (0, 0)) := by
   rw [show W.heap.size + 1 = (W.alloc (.cells #[.slice A0 n0 c0, .slice A1 n1 c1, .slice A2 n2 c2, .slice A3 n3 c3, .bool fa, .int .i64 (-1), .slice A6 n6 c6] 31)).heap.size by simp]; exact blk_new _ _
  have hb2 : Below W.heap.size W ((W.alloc (.cells #[.slice A0 n0 c0, .slice A1 n1 c1, .slice A2 n2 c2, .slice A3 n3 c3, .bool fa, .int .i64 (-1), .slice A6 n6 c6] 31)).alloc (.cells #[.slice A0 n0 c0, .slice A1 n1 c1, .slice A2 n2 c2, .slice A3 n3 c3, .bool fa, .int .i64 (-1), .slice A6 n6 c6] 31)) := below_alloc (below_alloc (Below.refl _ _) _) _
  refine bodyPost_ret (results_ct rfl _ _ (W.heap.size + 1) 31 #[.slice A0 n0 c0, .slice A1 n1 c1, .slice A2 n2 c2, .slice A3 n3 c3, .bool fa, .int .i64 (-1), .slice A6 n6 c6] (0, 0) _ rfl hx2 Try.underlying31 rfl (by kernel_rfl)) rfl ?_
  refine ⟨_, rfl, ?_, hb2⟩
  exact (HR.out.below hb2).mono (fun k hk _ => Or.inl hk)
 | true =>
  obtain ⟨hx, hsv⟩ := HA.out.uok.2 hfs
  by_cases hlf : 0 < S.left
  ·have hu : useS S = (false, { S with left := S.left - 1 }) := by unfold useS; rw [if_neg (by rw [hfs]; simp), if_pos hlf]
   unfold UsePost
   rw [hu]
   have HFS := Aside0.mk hfs
   have HXX := Aside0.mk hx
   have HSV := Aside0.mk hsv
   have n1' : (fu != 0) = true := bne_iff_ne.2 (by omega)
   have n2' : ¬ fu - 1 < -1 := by omega
   have n3' : 0 < fu := by omega
   have n4' : fu ≤ 9223372036854775807 := by omega
   clear hu hfs hx hsv hlf hl0
   go_enter Try.func56, Try.ntmps56
   go_wp2_with fail
   have hx2 : ((W.alloc (.cells #[.slice A0 n0 c0, .slice A1 n1 c1, .slice A2 n2 c2, .slice A3 n3 c3, .bool fa, .int .i64 (fu - 1), .slice A6 n6 c6] 31)).alloc (.cells #[.slice A0 n0 c0, .slice A1 n1 c1, .slice A2 n2 c2, .slice A3 n3 c3, .bool fa, .int .i64 (fu - 1), .slice A6 n6 c6] 31)).heap[W.heap.size + 1]? = some (.cells #[.slice A0 n0 c0, .slice A1 n1 c1, .slice A2 n2 c2, .slice A3 n3 c3, .bool fa, .int .i64 (fu - 1), .slice A6 n6 c6] 31 (0, 0)) := by
    rw [show W.heap.size + 1 = (W.alloc (.cells #[.slice A0 n0 c0, .slice A1 n1 c1, .slice A2 n2 c2, .slice A3 n3 c3, .bool fa, .int .i64 (fu - 1), .slice A6 n6 c6] 31)).heap.size by simp]; exact blk_new _ _
   have hb2 : Below W.heap.size W ((W.alloc (.cells #[.slice A0 n0 c0, .slice A1 n1 c1, .slice A2 n2 c2, .slice A3 n3 c3, .bool fa, .int .i64 (fu - 1), .slice A6 n6 c6] 31)).alloc (.cells #[.slice A0 n0 c0, .slice A1 n1 c1, .slice A2 n2 c2, .slice A3 n3 c3, .bool fa, .int .i64 (fu - 1), .slice A6 n6 c6] 31)) := below_alloc (below_alloc (Below.refl _ _) _) _
   refine bodyPost_ret (results_ct rfl _ _ (W.heap.size + 1) 31 #[.slice A0 n0 c0, .slice A1 n1 c1, .slice A2 n2 c2, .slice A3 n3 c3, .bool fa, .int .i64 (fu - 1), .slice A6 n6 c6] (0, 0) _ rfl hx2 Try.underlying31 rfl (by kernel_rfl)) rfl ?_
   refine ⟨_, rfl, ?_, hb2⟩
   obtain ⟨rfl, rfl, rfl, rfl, rfl, rfl⟩ := EQ.out
   exact HA.out.re hb2 S.failed (fu - 1) { S with left := S.left - 1 } rfl rfl rfl rfl HA.out.fok ⟨(fun z => by have h1 : S.fset = false := z; rw [HFS.out] at h1; cases h1), fun _ => ⟨by have h1 := HXX.out; show fu - 1 = S.left - 1; omega, HSV.out⟩⟩
  ·have hu : useS S = (true, blown (finishS isAny S.surv S)) := by unfold useS; rw [if_neg (by rw [hfs]; simp), if_neg hlf, finish_blown]
   unfold UsePost
   rw [hu]
   have hz : fu = 0 := by omega
   subst hz
   have HSV := Aside0.mk hsv
   have HF6 := Aside0.mk hF6k
   have HL6 := Aside0.mk hl6k
   clear hu hfs hx hlf hl0
   go_enter Try.func56, Try.ntmps56
   go_wp2_with fail
   obtain ⟨w1, hw1⟩ : ∃ w1, w1 = (W.alloc (.cells #[.slice A0 n0 c0, .slice A1 n1 c1, .slice A2 n2 c2, .slice A3 n3 c3, .bool fa, .int .i64 0, .slice A6 n6 c6] 31)).alloc (.cells #[.slice none 0 0, .slice none 0 0, .slice none 0 0, .slice none 0 0, .bool false, .int .i64 0, .slice none 0 0] 31) := ⟨_, rfl⟩
   have hb1 : Below W.heap.size W w1 := by rw [hw1]; exact below_alloc (below_alloc (Below.refl _ _) _) _
   have hs1 : w1.heap.size = W.heap.size + 1 + 1 := by rw [hw1]; simp
   have f0 : w1.heap[W.heap.size]? = some (.cells #[.slice A0 n0 c0, .slice A1 n1 c1, .slice A2 n2 c2, .slice A3 n3 c3, .bool fa, .int .i64 0, .slice A6 n6 c6] 31 (0, 0)) := by rw [hw1]; exact blk_below (blk_new _ _) (below_alloc (Below.refl _ _) _)
   have f1 : w1.heap[W.heap.size + 1]? = some (.cells #[.slice none 0 0, .slice none 0 0, .slice none 0 0, .slice none 0 0, .bool false, .int .i64 0, .slice none 0 0] 31 (0, 0)) := by rw [hw1, show W.heap.size + 1 = (W.alloc (.cells #[.slice A0 n0 c0, .slice A1 n1 c1, .slice A2 n2 c2, .slice A3 n3 c3, .bool fa, .int .i64 0, .slice A6 n6 c6] 31)).heap.size by simp]; exact blk_new _ _
   obtain ⟨bx, hbx⟩ : ∃ bx, bx = W.heap.size := ⟨_, rfl⟩
   obtain ⟨rb, hrb⟩ : ∃ rb, rb = W.heap.size + 1 := ⟨_, rfl⟩
   rw [← hw1, ← hrb]
   rw [show (Value.pointer (some ⟨W.heap.size, 0, none⟩)) = .pointer (some ⟨bx, 0, none⟩) by rw [hbx]]
   rw [← hrb] at f1
   rw [← hbx] at f0
   have LB := Aside0.mk (show W.heap.size ≤ bx ∧ W.heap.size ≤ rb ∧ bx ≠ rb ∧ bx < w1.heap.size ∧ rb < w1.heap.size from ⟨by omega, by omega, by omega, by omega, by omega⟩)
   have F0 := Aside0.mk f0
   have F1 := Aside0.mk f1
   have HB1 := Aside0.mk hb1
   have HS1 := Aside0.mk hs1
   clear hw1 hb1 hs1 f0 f1 hbx hrb
   have hend := end_ref (W := w1) (ok := fun k => ok k ∧ k < W.heap.size) ((HR.out.mono (ok' := fun k => ok k ∧ k < W.heap.size) (fun k hk hlt => ⟨hk, hlt⟩)).below HB1.out) HG.out.fine hk isAny 0 (fun w => by simp [isAny]) A6 c6 sv sv (Kd.C_below (Kd.F_now HF6.out) HB1.out) HL6.out (by rw [HSV.out]; exact HG.out.sl) false (fun z => by cases z) (fun k _ => rfl)
   rw [← EQ.out.2.2.2.2.1] at hend
   have HEND := Aside0.mk hend
   clear hend
   refine HEND.out.mono ?_
   rintro e w2 ⟨v', rfl, hR2, hb2⟩
   obtain ⟨E0, E1, E2, E3, E6, d0, d1, d2, d3, d6, gl, gu, gs, hRC⟩ := hR2.open_
   obtain rfl := hRC.hv
   have g0 := blk_below F0.out hb2
   have g1 := blk_below F1.out hb2
   obtain ⟨S1, hS1⟩ : ∃ S1, S1 = finishS isAny sv S := ⟨_, rfl⟩
   rw [← hS1] at hR2
   rw [← hS1]
   obtain ⟨m0, hm0⟩ : ∃ m, m = S1.stable.length := ⟨_, rfl⟩
   obtain ⟨m1, hm1⟩ : ∃ m, m = S1.old.length := ⟨_, rfl⟩
   obtain ⟨m2, hm2⟩ : ∃ m, m = S1.pend.length := ⟨_, rfl⟩
   obtain ⟨m3, hm3⟩ : ∃ m, m = gl.length := ⟨_, rfl⟩
   obtain ⟨m6, hm6⟩ : ∃ m, m = gs.length := ⟨_, rfl⟩
   obtain ⟨ma, hma⟩ : ∃ m, m = S1.failed := ⟨_, rfl⟩
   rw [← hm0, ← hm1, ← hm2, ← hm3, ← hm6, ← hma]
   have EM := Aside0.mk (show m0 = S1.stable.length ∧ m1 = S1.old.length ∧ m2 = S1.pend.length ∧ m3 = gl.length ∧ m6 = gs.length ∧ ma = S1.failed from ⟨hm0, hm1, hm2, hm3, hm6, hma⟩)
   obtain ⟨k0, k1, k2, k3, k4, k5, k6⟩ := cells7 g0
   obtain ⟨z0, z1, z2, z3, z4, z5, z6⟩ := froz7 g0
   obtain ⟨r0, r1, r2, r3, r4, r5, r6⟩ := cells7 g1
   obtain ⟨s0, s1, s2, s3, s4, s5, s6⟩ := froz7 g1
   have ne1 : bx ≠ rb := LB.out.2.2.1
   have ne2 : rb ≠ bx := fun e => ne1 e.symm
   have G0 := Aside0.mk g0
   have G1 := Aside0.mk g1
   have HR2 := Aside0.mk hR2
   have HB2 := Aside0.mk hb2
   have HS1' := Aside0.mk hS1
   clear HEND hRC hm0 hm1 hm2 hm3 hm6 hma g0 g1 hR2 hb2 hS1
   go_upto_region 5 with (fail)
   obtain ⟨w3, hw3⟩ : ∃ w3, w3 = set7 w2 bx (.slice E0 m0 d0) (.slice E1 m1 d1) (.slice E2 m2 d2) (.slice E3 m3 d3) (.bool ma) (.int .i64 gu) (.slice E6 m6 d6) := ⟨_, rfl⟩
   have hf3 : ∀ k, k ≠ bx → w3.heap[k]? = w2.heap[k]? := fun k hk => by rw [hw3]; exact set7_far w2 bx (.slice E0 m0 d0) (.slice E1 m1 d1) (.slice E2 m2 d2) (.slice E3 m3 d3) (.bool ma) (.int .i64 gu) (.slice E6 m6 d6) k hk
   have g0 : w3.heap[bx]? = some (.cells #[.slice E0 m0 d0, .slice E1 m1 d1, .slice E2 m2 d2, .slice E3 m3 d3, .bool ma, .int .i64 gu, .slice E6 m6 d6] 31 (0, 0)) := by rw [hw3]; exact set7_blk G0.out (.slice E0 m0 d0) (.slice E1 m1 d1) (.slice E2 m2 d2) (.slice E3 m3 d3) (.bool ma) (.int .i64 gu) (.slice E6 m6 d6)
   have g1 := (hf3 rb ne2).trans G1.out
   have hb3 : Below W.heap.size W w3 := by rw [hw3]; exact set7_below (HB1.out.trans (HB2.out.mono HB1.out.size)) LB.out.1 (.slice E0 m0 d0) (.slice E1 m1 d1) (.slice E2 m2 d2) (.slice E3 m3 d3) (.bool ma) (.int .i64 gu) (.slice E6 m6 d6)
   have HF3' := Aside0.mk hf3
   unfold set7 at hw3
   rw [← hw3]
   clear hw3 hf3 k0 k1 k2 k3 k4 k5 k6 z0 z1 z2 z3 z4 z5 z6 r0 r1 r2 r3 r4 r5 r6 s0 s1 s2 s3 s4 s5 s6 G0 G1
   obtain ⟨k0, k1, k2, k3, k4, k5, k6⟩ := cells7 g0
   obtain ⟨z0, z1, z2, z3, z4, z5, z6⟩ := froz7 g0
   obtain ⟨r0, r1, r2, r3, r4, r5, r6⟩ := cells7 g1
   obtain ⟨s0, s1, s2, s3, s4, s5, s6⟩ := froz7 g1
   have G0 := Aside0.mk g0
   have G1 := Aside0.mk g1
   have HB3 := Aside0.mk hb3
   clear g0 g1 hb3
   go_wp2_with fail
   have hB1 : ((w3.setCell ⟨bx, 4, none⟩ (.bool true)).setCell ⟨bx, 5, none⟩ (.int .i64 (-1))).heap[rb]? = some (.cells #[.slice none 0 0, .slice none 0 0, .slice none 0 0, .slice none 0 0, .bool false, .int .i64 0, .slice none 0 0] 31 (0, 0)) := (Below.heap_setCell _ _ _ _ ne2).trans ((Below.heap_setCell _ _ _ _ ne2).trans G1.out)
   have hbC := set7_below ((HB3.out.setCell (p := ⟨bx, 4, none⟩) LB.out.1 (.bool true)).setCell (p := ⟨bx, 5, none⟩) LB.out.1 (.int .i64 (-1))) LB.out.2.1 (.slice E0 m0 d0) (.slice E1 m1 d1) (.slice E2 m2 d2) (.slice E3 m3 d3) (.bool true) (.int .i64 (-1)) (.slice E6 m6 d6)
   refine bodyPost_ret (results_ct rfl _ _ rb 31 #[.slice E0 m0 d0, .slice E1 m1 d1, .slice E2 m2 d2, .slice E3 m3 d3, .bool true, .int .i64 (-1), .slice E6 m6 d6] (0, 0) _ rfl (set7_blk hB1 (.slice E0 m0 d0) (.slice E1 m1 d1) (.slice E2 m2 d2) (.slice E3 m3 d3) (.bool true) (.int .i64 (-1)) (.slice E6 m6 d6)) Try.underlying31 rfl (by kernel_rfl)) rfl ?_
   refine ⟨_, rfl, ?_, hbC⟩
   have hf : ∀ k, k ≠ bx → k ≠ rb → (set7 ((w3.setCell ⟨bx, 4, none⟩ (.bool true)).setCell ⟨bx, 5, none⟩ (.int .i64 (-1))) rb (.slice E0 m0 d0) (.slice E1 m1 d1) (.slice E2 m2 d2) (.slice E3 m3 d3) (.bool true) (.int .i64 (-1)) (.slice E6 m6 d6)).heap[k]? = w2.heap[k]? := fun k h1 h2 => (set7_far _ rb (.slice E0 m0 d0) (.slice E1 m1 d1) (.slice E2 m2 d2) (.slice E3 m3 d3) (.bool true) (.int .i64 (-1)) (.slice E6 m6 d6) k h2).trans ((Below.heap_setCell _ _ _ _ h1).trans ((Below.heap_setCell _ _ _ _ h1).trans (HF3'.out k h1)))
   obtain ⟨gl', gu', gs', x4, x5, hA2⟩ := HR2.out.agg
   obtain ⟨t0, t1, t2, t3, t4, t5⟩ := EM.out
   rw [← t0, ← t1, ← t2, ← t3, ← t4, ← t5] at hA2
   have hok : ∀ k, ((ok k ∧ k < W.heap.size) ∨ w1.heap.size ≤ k) → k ≠ bx ∧ k ≠ rb ∧ (ok k ∨ W.heap.size ≤ k) := fun k hk => by
    obtain ⟨l1, l2, l3, l4, l5⟩ := LB.out
    have l6 := HB1.out.size
    rcases hk with hk | hk
    ·exact ⟨by omega, by omega, Or.inl hk.1⟩
    ·exact ⟨by omega, by omega, Or.inr (by omega)⟩
   have mv : ∀ {α : Type} {d : Kd α} {e : Nat} {u : Value} {ys : List α}, Kd.V d e w2 0 (fun k => (ok k ∧ k < W.heap.size) ∨ w1.heap.size ≤ k) u ys → Kd.V d e (set7 ((w3.setCell ⟨bx, 4, none⟩ (.bool true)).setCell ⟨bx, 5, none⟩ (.int .i64 (-1))) rb (.slice E0 m0 d0) (.slice E1 m1 d1) (.slice E2 m2 d2) (.slice E3 m3 d3) (.bool true) (.int .i64 (-1)) (.slice E6 m6 d6)) 0 (fun k => ok k ∨ W.heap.size ≤ k) u ys := fun hu =>
    Kd.V_mono (Kd.V_step hu (fun k hk _ => hf k (hok k hk).1 (hok k hk).2.1)) (fun k hk => (hok k hk).2.2)
   rw [← HSV.out, ← HS1'.out]
   exact ⟨_, _, _, _, _, gl', -1, gs', { hv := rfl, h0 := mv hA2.h0, h1 := mv hA2.h1, h2 := mv hA2.h2, h3 := mv hA2.h3, h6 := mv hA2.h6, fl5 := hA2.fl5, fok := hA2.fok, uok := ⟨(fun _ => rfl), (fun z => by cases z)⟩ }⟩
end
end Go.Proofs.Ytflajmgichdhhaa.PG

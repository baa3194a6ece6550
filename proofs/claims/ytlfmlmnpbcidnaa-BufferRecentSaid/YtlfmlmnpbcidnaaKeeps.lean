/- The walk of BufferKeeps. -/
import Derived.Test.YtlfmlmnpbcidnaaShare
import Derived.BigQuiet

namespace Go.Proofs.Ytlfmlmnpbcidnaa.PG
open Go.RowKit Go.Proofs.YtlfmlmnpbcidnaaW.PrintWords Go.Proofs.YtlfmlmnpbcidnaaW.PrintLast Go.Proofs.YtlfmlmnpbcidnaaW.PrintMore
set_option linter.unusedVariables false
set_option linter.unusedSimpArgs false
/-! ### BufferKeeps: the law's map says of each page in the pool what was put last -/
attribute [local go_sem high] eqA40
theorem eqA49 (d : Nat) (w : World) (x0 y0 : ByteArray) (x1 y1 : Int) :
    (Op.equalIn (d + 2) 49 (.agg #[.string x0, .int .i64 x1]) (.agg #[.string y0, .int .i64 y1])).run Try.prog w = .ok (x0.toList == y0.toList && (x1 == y1)) w := by
  refine eqA_of Try.underlying49 (by kernel_rfl) ?_
  refine eqf_cons (by rfl) (by go_simp; rfl) (by go_simp; rfl) (by go_simp) ?_
  exact eqf_last (by rfl) (by go_simp; rfl) (by go_simp; rfl) (by go_simp)
attribute [local go_sem high] eqA49
set_option maxRecDepth 100000 in
theorem zero49 (w : World) : (zeroValue 49).run Try.prog w = .ok (.agg #[.string ⟨#[]⟩, .int .i64 0]) w := by kernel_rfl
def LastOk (S : PoolS) (ml : Ents) : Prop := ∀ a c, look a S.ents = some c → look a ml = some c
theorem LastOk.forgot {S : PoolS} {ml : Ents} (h : LastOk S ml) (hn : (keys S.ents).Nodup) (p : S40 → Cont → Bool) : LastOk (forgot p S) ml := by
  intro a c hc
  have hc' : look a (keepEnts p S.ents) = some c := hc
  rw [look_keep p a _ hn] at hc'
  cases hs : look a S.ents with
  | none => rw [hs] at hc'; cases hc'
  | some c1 =>
    rw [hs] at hc'
    by_cases hp : p a c1 = true
    · simp [hp] at hc'
    · simp [hp] at hc'
      exact h a c (by rw [hs, hc'])
theorem look_usedEnts (a b : S40) (c : Cont) (es : Ents) (hn : (keys es).Nodup) : look b (usedEnts a c es) = if b = a then some c else look b es := by
  rw [usedEnts, look_snoc, look_keep _ _ _ hn]
  by_cases h : b = a
  · subst h
    rw [if_pos rfl]
    cases look b es <;> simp [isAt]
  · rw [if_neg h, if_neg (fun z => h z.symm)]
    cases look b es <;> simp [isAt, h]
theorem look_tail (b : S40) (c : Cont) : ∀ es : Ents, (keys es).Nodup → look b es.tail = some c → look b es = some c
  | [], _, h => h
  | e :: es, hn, h => by
    obtain ⟨h1, _⟩ := List.nodup_cons.1 (show (e.1 :: keys es).Nodup from hn)
    have hb := look_in (show look b es = some c from h)
    simp only [look]
    rw [if_neg (fun (z : e.1 = b) => h1 (by rw [z]; exact hb))]
    exact h
theorem LastOk.get {S : PoolS} {ml : Ents} (h : LastOk S ml) (hn : (keys S.ents).Nodup) (a : S40) : LastOk (getS a S) ml := by
  unfold getS
  cases hc : look a S.ents with
  | none => exact h
  | some c =>
    intro b c' hb
    have hb' : look b (usedEnts a c S.ents) = some c' := hb
    rw [look_usedEnts _ _ _ _ hn] at hb'
    by_cases e : b = a
    · rw [if_pos e] at hb'
      cases hb'
      rw [e]; exact h a c hc
    · rw [if_neg e] at hb'; exact h b c' hb'
theorem LastOk.put {S : PoolS} {ml : Ents} (h : LastOk S ml) (hn : (keys S.ents).Nodup) (a : S40) (c : Cont) : LastOk (putS a c S) (upd a c ml) := by
  intro b c' hb
  have hb' : look b (usedEnts a c S.ents) = some c' := by
    have : look b (if S.cap < ((usedEnts a c S.ents).length : Int) then (usedEnts a c S.ents).tail else usedEnts a c S.ents) = some c' := hb
    split at this
    · exact look_tail b c' _ (nodup_used a c _ (nodup_keep _ _ hn)) this
    · exact this
  rw [look_usedEnts _ _ _ _ hn] at hb'
  rw [look_upd]
  by_cases e : b = a
  · rw [if_pos e] at hb' ⊢; exact hb'
  · rw [if_neg e] at hb' ⊢; exact h b c' hb'
/-- The map behind a call that is no Get. -/
def lastS (o : S38) (ml : Ents) : Ents := if o.f0 = 1 then upd (place o) ⟨o.f4, o.f3⟩ ml else ml
theorem LastOk.do {S : PoolS} {ml : Ents} (h : LastOk S ml) (hn : (keys S.ents).Nodup) (o : S38) : LastOk (doS o S) (lastS o ml) := by
  unfold doS lastS
  by_cases h0 : o.f0 = 0
  · rw [if_pos h0, if_neg (by omega)]; exact h.get hn _
  · rw [if_neg h0]
    by_cases h1 : o.f0 = 1
    · rw [if_pos h1, if_pos h1]; exact h.put hn _ _
    · rw [if_neg h1, if_neg h1]
      split
      · exact h.forgot hn _
      · split
        · exact h.forgot hn _
        · exact h
theorem cap_do (o : S38) (S : PoolS) : (doS o S).cap = S.cap := by
  unfold doS getS
  split
  · cases look (place o) S.ents <;> rfl
  · split
    · rfl
    · split
      · rfl
      · split <;> rfl
theorem cap_get (a : S40) (S : PoolS) : (getS a S).cap = S.cap := by
  unfold getS
  cases look a S.ents <;> rfl
/-- A call, with what it keeps. -/
theorem do_roundF (W wr : World) (g i : Nat) (F : Nat → Prop) (S : PoolS) (o : S38) (hk : i < 1000) (hP : PoolIs wr W.heap.size g F S) (hF : Fine i S) (hB : Below W.heap.size W wr) :
    Calls Try.prog 18 #[.pointer (some ⟨g, 0, none⟩), .agg #[.int .i64 o.f0, .int .i64 o.f1, .int .i64 o.f2, .int .i64 o.f3, .string o.f4]] (wr.alloc (.cells #[.int .i64 o.f0, .int .i64 o.f1, .int .i64 o.f2, .int .i64 o.f3, .string o.f4] 38)) fun e W' =>
      e = .returned (.tuple #[]) ∧ ∃ F', PoolIs W' W.heap.size g F' (doS o S) ∧ Below W.heap.size W W' ∧ (∀ k, F' k → F k ∨ wr.heap.size + 1 ≤ k) ∧ Kept (wr.alloc (.cells #[.int .i64 o.f0, .int .i64 o.f1, .int .i64 o.f2, .int .i64 o.f3, .string o.f4] 38)) W' F := by
  have hb := below_alloc (Below.refl wr.heap.size wr) (.cells #[.int .i64 o.f0, .int .i64 o.f1, .int .i64 o.f2, .int .i64 o.f3, .string o.f4] 38)
  refine (do_calls _ W.heap.size g i F _ o (hP.below hb) hF hk).mono ?_
  rintro e W' ⟨rfl, F', h1, h3, h4, h2⟩
  rw [size_alloc1] at h3
  exact ⟨rfl, F', h1, (hB.trans (hb.mono hB.size)).trans h2, h3, h4⟩
theorem makeMap47 (w : World) : (Instr.makeMap 47 none).run Try.prog w = .ok (.map (some w.heap.size)) (w.alloc (.map #[] 0)) := by
  simp [Instr.makeMap]
set_option maxHeartbeats 4000000 in
set_option maxRecDepth 100000 in
theorem keeps_calls (W : World) (u : Int) (u0 : 0 ≤ u) (u1 : u < 256) (a : Option Addr) (cap : Nat) (l : List S38) (hC : Kd.C k38 W a l.length l) (hcap : l.length ≤ cap) (hm : cap ≤ maxLen) :
    Calls Try.prog 6 #[.int .u8 u, .slice a l.length cap] W fun e W' => e = .returned (.bool true) ∧ Below W.heap.size W W' := by
  have HC := Aside0.mk hC
  clear hC
  go_enter Try.func6, Try.ntmps6
  go_wp2_with fail
  refine (awake_calls W).mono ?_
  rintro e W1 ⟨rfl, hb1⟩
  have HB1 := Aside0.mk hb1
  have HC1 := Aside0.mk (Kd.C_below HC.out hb1)
  clear hb1
  go_wp2_with fail
  refine (few_calls W1 a cap l HC1.out hcap hm).mono ?_
  rintro e W2 ⟨r, rfl, hr, hb2⟩
  cases r with
  | false =>
    have HB2 := Aside0.mk (HB1.out.trans (hb2.mono HB1.out.size))
    clear hb2 hr HC1
    go_wp2_with fail
    go_ret
    exact ⟨rfl, HB2.out⟩
  | true =>
  have hlen := hr rfl
  have HB2 := Aside0.mk (HB1.out.trans (hb2.mono HB1.out.size))
  clear hb2 hr HC1 HB1
  go_wp2_with fail
  refine (start_calls W2 u u0 u1).mono ?_
  rintro e W3 ⟨rfl, hP3, hb3⟩
  have HB3 := Aside0.mk (HB2.out.trans (hb3.mono HB2.out.size))
  have HP3 := Aside0.mk (hP3.lower HB2.out.size)
  have HF3 := Aside0.mk (fine0 (1 + u % 8) (by omega) (by omega))
  have hsz3 : W.heap.size ≤ W3.heap.size := HB3.out.size
  obtain ⟨g, hg⟩ : ∃ g, g = W2.heap.size + 1 := ⟨_, rfl⟩
  rw [← hg] at HP3
  rw [← hg]
  obtain ⟨F3, hF3⟩ : ∃ F3 : Nat → Prop, F3 = (fun k => k = W2.heap.size ∨ k = g) := ⟨_, rfl⟩
  rw [← hF3] at HP3
  have HFL := Aside0.mk (fun k (z : F3 k) => (HP3.out.range k z).2)
  clear hb3 hP3 HB2 hg hF3
  have hmk := makeMap47
  have HM3 := Aside0.mk (MapIs.made W3)
  have hba := below_alloc (Below.refl W3.heap.size W3) (.map #[] 0)
  have HP4 := Aside0.mk (HP3.out.below hba)
  have HB4 := Aside0.mk (HB3.out.trans (hba.mono hsz3))
  have hs4 := size_alloc1 W3 (.map #[] 0)
  obtain ⟨bl, hbl⟩ : ∃ bl, bl = W3.heap.size := ⟨_, rfl⟩
  go_wp2_with fail
  rw [← hbl]
  rw [← hbl] at HM3 hs4
  have HFB := Aside0.mk (show ¬ F3 bl from fun z => by have := HFL.out bl z; omega)
  have hWbl : W.heap.size ≤ bl := by omega
  clear hba hmk hbl HB3 HP3 HFL
  go_loopg [28] l.length (fun gg s28 wr => ∃ (i : Nat) (F : Nat → Prop) (S : PoolS) (ml : Ents), s28 = .int .i64 i ∧ i ≤ l.length ∧ l.length - i ≤ gg ∧ bl < wr.heap.size ∧ Aside0 (PoolIs wr W.heap.size g F S) ∧ Aside0 (Fine i S) ∧ Aside0 (S.cap = 1 + u % 8) ∧ Aside0 (MapIs wr bl ml) ∧ Aside0 (LastOk S ml) ∧ Aside0 (¬ F bl) ∧ Aside0 (Below W.heap.size W wr))
  case atStart => exact ⟨0, F3, _, [], by go_num, Nat.zero_le _, by omega, by omega, HP4, HF3, ⟨rfl⟩, HM3, ⟨fun a c h => by cases h⟩, HFB, HB4⟩
  case round =>
    obtain ⟨i, F, S, ml, rfl, hi, hgg, hblr, HP, HF, HCAP, HM, HL, HFN, HB⟩ := hrel
    have hszr : W.heap.size ≤ wr.heap.size := HB.out.size
    by_cases hlt : i < l.length
    · have hltz : (i : Int) < (l.length : Int) := by omega
      obtain ⟨ad, e, h0, h1, h2, h3, h4⟩ := at_T38 (Kd.C_below HC.out HB.out) (i : Int) (by omega) hltz
      rw [rdT38_at l i hlt] at h0 h1 h2 h3 h4
      cases e
      rw [Int.toNat_natCast] at h0 h1 h2 h3 h4
      obtain ⟨o, ho⟩ : ∃ o, o = l[i] := ⟨_, rfl⟩
      rw [← ho] at h0 h1 h2 h3 h4
      clear ho
      have hbx := below_alloc (Below.refl wr.heap.size wr) (.cells #[.int .i64 o.f0, .int .i64 o.f1, .int .i64 o.f2, .int .i64 o.f3, .string o.f4] 38)
      have HBX := Aside0.mk hbx
      have HX := Aside0.mk (blk_new wr (.cells #[.int .i64 o.f0, .int .i64 o.f1, .int .i64 o.f2, .int .i64 o.f3, .string o.f4] 38))
      have hsx := size_alloc1 wr (.cells #[.int .i64 o.f0, .int .i64 o.f1, .int .i64 o.f2, .int .i64 o.f3, .string o.f4] 38)
      clear hbx
      by_cases hk0 : o.f0 = 0
      · have hd0 : (o.f0 == 0) = true := by rw [hk0]; rfl
        clear hk0
        have hg := get_calls _ W.heap.size g i F S ⟨o.f1, o.f2⟩ (HP.out.below HBX.out) HF.out (by omega)
        cases hc : look ⟨o.f1, o.f2⟩ S.ents with
        | none =>
          have hr1 : getR ⟨o.f1, o.f2⟩ S = (⟨⟨#[]⟩, 0⟩, false) := by unfold getR; rw [hc]
          rw [hr1] at hg
          clear hc hr1
          have HG := Aside0.mk hg
          clear hg
          go_wp2_with fail
          refine HG.out.mono ?_
          rintro e W5 ⟨rfl, F5, hP5, hF5, hk5, hb5⟩
          have hx5 := blk_kept HX.out hk5 (fun z => by have := (HP.out.range _ z).2; omega)
          have x1 : W5.cell? ⟨wr.heap.size, 1, none⟩ = some (.int .i64 o.f1) := by rw [blk_cell hx5]; rfl
          have x2 : W5.cell? ⟨wr.heap.size, 2, none⟩ = some (.int .i64 o.f2) := by rw [blk_cell hx5]; rfl
          have hm5 := (HM.out.move (HBX.out.block bl hblr)).move (hk5.2 bl (by omega) HFN.out)
          have HM5 := Aside0.mk hm5
          have HP5 := Aside0.mk hP5
          have HB5 := Aside0.mk ((HB.out.trans (HBX.out.mono hszr)).trans hb5)
          have HFN5 := Aside0.mk (show ¬ F5 bl from fun z => (hF5 bl z).elim HFN.out (fun y => by omega))
          have HF5 := Aside0.mk (HF.out.get ⟨o.f1, o.f2⟩)
          have HL5 := Aside0.mk (HL.out.get HF.out.nd ⟨o.f1, o.f2⟩)
          have HCAP5 := Aside0.mk ((cap_get ⟨o.f1, o.f2⟩ S).trans HCAP.out)
          have hs5 : bl < W5.heap.size := by have := hk5.1; omega
          clear hP5 hF5 hk5 hb5 hx5 hm5 HG HBX HX HP HM HB HF HL HCAP HFN h0 h1 h2 h3 h4
          go_wp2_with fail
          go_roundg (l.length - (i + 1))
          case measure => omega
          case rel => exact ⟨i + 1, F5, _, ml, by go_num, by omega, Nat.le_refl _, hs5, HP5, HF5, HCAP5, HM5, HL5, HFN5, HB5⟩
        | some c =>
          have hr1 : getR ⟨o.f1, o.f2⟩ S = (c, true) := by unfold getR; rw [hc]
          rw [hr1] at hg
          have hlc := HL.out _ _ hc
          clear hc hr1
          have HG := Aside0.mk hg
          have HLC := Aside0.mk hlc
          clear hg hlc
          go_wp2_with fail
          refine HG.out.mono ?_
          rintro e W5 ⟨rfl, F5, hP5, hF5, hk5, hb5⟩
          have hx5 := blk_kept HX.out hk5 (fun z => by have := (HP.out.range _ z).2; omega)
          have x1 : W5.cell? ⟨wr.heap.size, 1, none⟩ = some (.int .i64 o.f1) := by rw [blk_cell hx5]; rfl
          have x2 : W5.cell? ⟨wr.heap.size, 2, none⟩ = some (.int .i64 o.f2) := by rw [blk_cell hx5]; rfl
          have hm5 := (HM.out.move (HBX.out.block bl hblr)).move (hk5.2 bl (by omega) HFN.out)
          have HM5 := Aside0.mk hm5
          have HP5 := Aside0.mk hP5
          have HB5 := Aside0.mk ((HB.out.trans (HBX.out.mono hszr)).trans hb5)
          have HFN5 := Aside0.mk (show ¬ F5 bl from fun z => (hF5 bl z).elim HFN.out (fun y => by omega))
          have HF5 := Aside0.mk (HF.out.get ⟨o.f1, o.f2⟩)
          have HL5 := Aside0.mk (HL.out.get HF.out.nd ⟨o.f1, o.f2⟩)
          have HCAP5 := Aside0.mk ((cap_get ⟨o.f1, o.f2⟩ S).trans HCAP.out)
          have hs5 : bl < W5.heap.size := by have := hk5.1; omega
          have hlook : (Instr.lookup 47 (.map (some bl)) (.agg #[.int .i64 o.f1, .int .i64 o.f2]) false).run Try.prog W5 = .ok (.agg #[.string c.data, .int .i64 c.ver]) W5 := by
            have h := hm5.run_look Try.underlying47 zero49 ⟨o.f1, o.f2⟩ false
            rw [HLC.out] at h
            exact h
          clear hP5 hF5 hk5 hb5 hx5 hm5 HG HBX HX HP HM HB HF HL HCAP HFN h0 h1 h2 h3 h4
          go_wp2_with fail
          go_roundg (l.length - (i + 1))
          case measure => omega
          case rel => exact ⟨i + 1, F5, _, ml, by go_num, by omega, Nat.le_refl _, hs5, HP5, HF5, HCAP5, HM5, HL5, HFN5, HB5⟩
      · have hd0 : (o.f0 == 0) = false := beq_eq_false_iff_ne.2 hk0
        have HD := Aside0.mk (do_roundF W wr g i F S o (by omega) HP.out HF.out HB.out)
        clear hk0
        go_wp2_with fail
        refine HD.out.mono ?_
        rintro e W5 ⟨rfl, F5, hP5, hb5, hF5, hk5⟩
        have hx5 := blk_kept HX.out hk5 (fun z => by have := (HP.out.range _ z).2; omega)
        have x0 : W5.cell? ⟨wr.heap.size, 0, none⟩ = some (.int .i64 o.f0) := by rw [blk_cell hx5]; rfl
        have x1 : W5.cell? ⟨wr.heap.size, 1, none⟩ = some (.int .i64 o.f1) := by rw [blk_cell hx5]; rfl
        have x2 : W5.cell? ⟨wr.heap.size, 2, none⟩ = some (.int .i64 o.f2) := by rw [blk_cell hx5]; rfl
        have x3 : W5.cell? ⟨wr.heap.size, 3, none⟩ = some (.int .i64 o.f3) := by rw [blk_cell hx5]; rfl
        have x4 : W5.cell? ⟨wr.heap.size, 4, none⟩ = some (.string o.f4) := by rw [blk_cell hx5]; rfl
        have hm5 := (HM.out.move (HBX.out.block bl hblr)).move (hk5.2 bl (by omega) HFN.out)
        have HP5 := Aside0.mk hP5
        have HB5 := Aside0.mk hb5
        have HFN5 := Aside0.mk (show ¬ F5 bl from fun z => (hF5 bl z).elim HFN.out (fun y => by omega))
        have HF6 := Aside0.mk (HF.out.do o)
        have HL5 := Aside0.mk (HL.out.do HF.out.nd o)
        have HCAP6 := Aside0.mk ((cap_do o S).trans HCAP.out)
        have hs5 : bl < W5.heap.size := by have := hk5.1; omega
        have hBl : W.heap.size ≤ bl := hWbl
        obtain ⟨S6, hS6⟩ : ∃ S6, S6 = doS o S := ⟨_, rfl⟩
        rw [← hS6] at HF6 HL5 HCAP6 HP5
        clear hP5 hF5 hk5 hb5 hx5 HBX HX HP HB HF HL HCAP HFN h0 h1 h2 h3 h4 HD hS6
        by_cases hk1 : o.f0 = 1
        · have hd1 : (o.f0 == 1) = true := by rw [hk1]; rfl
          have HL6 := Aside0.mk (show LastOk S6 (upd (place o) ⟨o.f4, o.f3⟩ ml) from by have h := HL5.out; unfold lastS at h; rw [if_pos hk1] at h; exact h)
          obtain ⟨W6, hrun, hm6, hg6⟩ := hm5.run_update Try.underlying47 (place o) ⟨o.f4, o.f3⟩
          have HM6 := Aside0.mk hm6
          have HP6 := Aside0.mk (HP5.out.move (fun k hk => hg6.block k (HP5.out.range k hk).2 (fun z => HFN5.out (Option.some.inj z ▸ hk))) hg6.size)
          have HB6 := Aside0.mk (HB5.out.grown hg6 HB5.out.size (fun k hk => by cases hk; exact hBl))
          have hs6 : bl < W6.heap.size := by have := hg6.size; omega
          unfold encP encC place at hrun
          clear hk1 hm5 hm6 hg6 HP5 HB5 HL5
          go_wp2_with fail
          have hle6 := HF6.out.len
          rw [HCAP6.out] at hle6
          have hgt : decide (1 + u % 8 < (S6.ents.length : Int)) = false := decide_eq_false (by omega)
          clear hle6
          go_wp2_with fail
          refine (len_calls W6 _ _ _ _ HP6.out).mono ?_
          rintro e W7 ⟨rfl, hb7⟩
          have HP7 := Aside0.mk (HP6.out.below hb7)
          have HM7 := Aside0.mk (HM6.out.move (hb7.block bl hs6))
          have HB7 := Aside0.mk (HB6.out.trans (hb7.mono HB6.out.size))
          have hs7 : bl < W7.heap.size := by have := hb7.size; omega
          clear hb7 HP6 HM6 HB6
          go_wp2_with fail
          refine (len_calls W7 _ _ _ _ HP7.out).mono ?_
          rintro e W8 ⟨rfl, hb8⟩
          have HP8 := Aside0.mk (HP7.out.below hb8)
          have HM8 := Aside0.mk (HM7.out.move (hb8.block bl hs7))
          have HB8 := Aside0.mk (HB7.out.trans (hb8.mono HB7.out.size))
          have hs8 : bl < W8.heap.size := by have := hb8.size; omega
          clear hb8 HP7 HM7 HB7
          go_wp2_with fail
          refine (places_calls W8 _ _ _ _ HP8.out).mono ?_
          rintro e W9 ⟨v, rfl, hR9, hb9⟩
          obtain ⟨A9, c9, hv9, _, _⟩ := Kd.R_reads hR9
          subst hv9
          rw [keys_length]
          have HP9 := Aside0.mk (HP8.out.below hb9)
          have HM9 := Aside0.mk (HM8.out.move (hb9.block bl hs8))
          have HB9 := Aside0.mk (HB8.out.trans (hb9.mono HB8.out.size))
          have hs9 : bl < W9.heap.size := by have := hb9.size; omega
          clear hb9 hR9 HP8 HM8 HB8
          go_wp2_with fail
          go_roundg (l.length - (i + 1))
          case measure => omega
          case rel => exact ⟨i + 1, F5, _, _, by go_num, by omega, Nat.le_refl _, hs9, HP9, HF6, HCAP6, HM9, HL6, HFN5, HB9⟩
        · have hd1 : (o.f0 == 1) = false := beq_eq_false_iff_ne.2 hk1
          have HL6 := Aside0.mk (show LastOk S6 ml from by have h := HL5.out; unfold lastS at h; rw [if_neg hk1] at h; exact h)
          have HM6 := Aside0.mk hm5
          clear hk1 hm5 HL5
          obtain ⟨W6, hW6⟩ : ∃ W6, W6 = W5 := ⟨_, rfl⟩
          subst hW6
          have HP6 := HP5
          have HB6 := HB5
          have hs6 := hs5
          clear HP5 HB5
          have hle6 := HF6.out.len
          rw [HCAP6.out] at hle6
          have hgt : decide (1 + u % 8 < (S6.ents.length : Int)) = false := decide_eq_false (by omega)
          clear hle6
          go_wp2_with fail
          refine (len_calls W6 _ _ _ _ HP6.out).mono ?_
          rintro e W7 ⟨rfl, hb7⟩
          have HP7 := Aside0.mk (HP6.out.below hb7)
          have HM7 := Aside0.mk (HM6.out.move (hb7.block bl hs6))
          have HB7 := Aside0.mk (HB6.out.trans (hb7.mono HB6.out.size))
          have hs7 : bl < W7.heap.size := by have := hb7.size; omega
          clear hb7 HP6 HM6 HB6
          go_wp2_with fail
          refine (len_calls W7 _ _ _ _ HP7.out).mono ?_
          rintro e W8 ⟨rfl, hb8⟩
          have HP8 := Aside0.mk (HP7.out.below hb8)
          have HM8 := Aside0.mk (HM7.out.move (hb8.block bl hs7))
          have HB8 := Aside0.mk (HB7.out.trans (hb8.mono HB7.out.size))
          have hs8 : bl < W8.heap.size := by have := hb8.size; omega
          clear hb8 HP7 HM7 HB7
          go_wp2_with fail
          refine (places_calls W8 _ _ _ _ HP8.out).mono ?_
          rintro e W9 ⟨v, rfl, hR9, hb9⟩
          obtain ⟨A9, c9, hv9, _, _⟩ := Kd.R_reads hR9
          subst hv9
          rw [keys_length]
          have HP9 := Aside0.mk (HP8.out.below hb9)
          have HM9 := Aside0.mk (HM8.out.move (hb9.block bl hs8))
          have HB9 := Aside0.mk (HB8.out.trans (hb9.mono HB8.out.size))
          have hs9 : bl < W9.heap.size := by have := hb9.size; omega
          clear hb9 hR9 HP8 HM8 HB8
          go_wp2_with fail
          go_roundg (l.length - (i + 1))
          case measure => omega
          case rel => exact ⟨i + 1, F5, _, _, by go_num, by omega, Nat.le_refl _, hs9, HP9, HF6, HCAP6, HM9, HL6, HFN5, HB9⟩
    · obtain rfl : i = l.length := by omega
      go_wp2_with fail
      go_ret
      exact ⟨rfl, HB.out⟩
end Go.Proofs.Ytlfmlmnpbcidnaa.PG

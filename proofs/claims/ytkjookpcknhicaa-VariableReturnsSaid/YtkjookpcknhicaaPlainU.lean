/- The plain part of layer 11, reading a block back: the program and the reference read the forms of records alike, and what is accepted is the forms of the records. -/
import Derived.Test.YtkjookpcknhicaaPlainP
import Derived.Test.YtkjookpcknhicaaPGx7
import Derived.Test.YtkjookpcknhicaaPGx8
import Derived.Test.YtkjookpcknhicaaPGx6
namespace Go.Proofs.Ytkjookpcknhicaa.Plain
open Go.RowKit Go.Proofs.YtkjookpcknhicaaW.PrintWords Go.Proofs.YtkjookpcknhicaaW.PrintLast Go.Proofs.Ytkjookpcknhicaa.PG
set_option linter.unusedVariables false
set_option linter.unusedSimpArgs false

/-! ### reading a block back -/
theorem ext_ext (s : ByteArray) {i j k l i' l' : Nat} (h1 : i + k = i') (h2 : min (i + l) j = l') : (s.extract i j).extract k l = s.extract i' l' := by subst h1; subst h2; exact ByteArray.extract_extract
theorem ext_at (s : ByteArray) {i j i' j' : Nat} (h1 : i = i') (h2 : j = j') : s.extract i j = s.extract i' j' := by subst h1; subst h2; rfl
/-- Why the first record of what is left of a block is refused. -/
def bad (L : Nat) (f : ByteArray) : Prop := f.size < 4 ∨ (rdw (f.extract 0 4)).2 = false ∨ (rdw (f.extract 0 4)).1 < 4 ∨ (f.size : Int) < (rdw (f.extract 0 4)).1 ∨ (4 + L : Int) < (rdw (f.extract 0 4)).1
instance (L : Nat) (f : ByteArray) : Decidable (bad L f) := by unfold bad; infer_instance
theorem rdw_range (s : ByteArray) : 0 ≤ (rdw s).1 ∧ (rdw s).1 ≤ 65535 := by
  unfold rdw
  have b0 := bt_range s 0
  have b1 := bt_range s 1
  split
  · show 0 ≤ 256 * bt s 0 + bt s 1 ∧ 256 * bt s 0 + bt s 1 ≤ 65535
    omega
  · exact ⟨Int.le_refl _, by show (0 : Int) ≤ 65535; omega⟩
theorem first_bad {L : Nat} {f : ByteArray} (hL : L ≤ 1000) (h : bad L f) : variable_first.f (L : Int) f = some ((⟨#[]⟩ : ByteArray), (⟨#[]⟩ : ByteArray), false) := by
  unfold variable_first.f
  have hr := rdw_range (f.extract 0 4)
  by_cases h0 : (f.size : Int) < 4
  · rw [if_pos h0]
  · rw [if_neg h0, if_pos (by decide), if_pos (by omega), var_read, Option.bind_some]
    by_cases h1 : (rdw (f.extract 0 4)).2 = true
    · rw [if_pos h1]
      by_cases h2 : (rdw (f.extract 0 4)).1 < 4
      · rw [if_pos h2]
      · rw [if_neg h2]
        by_cases h3 : (rdw (f.extract 0 4)).1 > (f.size : Int)
        · rw [if_pos h3]
        · rw [if_neg h3, w64 _ (by omega) (by omega)]
          rcases h with h | h | h | h | h
          · omega
          · rw [h] at h1; exact absurd h1 (by simp)
          · omega
          · omega
          · rw [if_pos (by omega)]
    · rw [if_neg h1]
theorem first_good {L : Nat} {f : ByteArray} (hL : L ≤ 1000) (h : ¬ bad L f) : variable_first.f (L : Int) f = some (f.extract 4 (rdw (f.extract 0 4)).1.toNat, f.extract (rdw (f.extract 0 4)).1.toNat f.size, true) := by
  unfold bad at h
  rw [not_or, not_or, not_or, not_or] at h
  obtain ⟨h0, h1, h2, h3, h4⟩ := h
  unfold variable_first.f
  rw [if_neg (by omega), if_pos (by decide), if_pos (by omega), var_read, Option.bind_some, if_pos (by simpa using h1), if_neg h2, if_neg (by omega), w64 _ (by omega) (by omega), if_neg (by omega), if_pos (by omega), if_pos (by omega), if_pos (by omega)]
/-- What is accepted is a form with the rest behind it. -/
theorem good_form {L : Nat} {f : ByteArray} (h : ¬ bad L f) : ∃ r rest n : _, (rdw (f.extract 0 4)).1 = ((n : Nat) : Int) ∧ n = 4 + r.size ∧ n ≤ f.size ∧ r = f.extract 4 n ∧ rest = f.extract n f.size ∧ f = form r ++ rest ∧ r.size ≤ L := by
  unfold bad at h
  rw [not_or, not_or, not_or, not_or] at h
  obtain ⟨h0, h1, h2, h3, h4⟩ := h
  obtain ⟨n, hn, he, hv⟩ := wrd_of_rdw (f.extract 0 4) (by simpa using h1)
  rw [hv] at h2 h3 h4
  have hs : (f.extract 4 n).size = n - 4 := by rw [ByteArray.size_extract]; omega
  refine ⟨f.extract 4 n, f.extract n f.size, n, hv, by omega, by omega, rfl, rfl, ?_, by omega⟩
  rw [form, hs, show 4 + (n - 4) = n from by omega, ← he]
  have e1 : f.extract 0 4 ++ f.extract 4 n = f.extract 0 n := by rw [ByteArray.extract_append_extract]; exact ext_at f (by omega) (by omega)
  rw [e1, ext_join]
theorem form_good {L : Nat} {r rest : ByteArray} (hr : r.size ≤ L) (hL : L ≤ 1000) : ¬ bad L (form r ++ rest) ∧ (form r ++ rest).extract 4 (rdw ((form r ++ rest).extract 0 4)).1.toNat = r ∧ (form r ++ rest).extract (rdw ((form r ++ rest).extract 0 4)).1.toNat (form r ++ rest).size = rest := by
  have e0 : (form r ++ rest).extract 0 4 = wrd (4 + r.size) := by rw [form, ByteArray.append_assoc]; exact ext_left4 _ _ rfl
  have e1 := rdw_wrd (4 + r.size) (by omega)
  have hs : (form r ++ rest).size = 4 + r.size + rest.size := by rw [ByteArray.size_append, form_size]
  rw [e0, e1, Int.toNat_natCast]
  refine ⟨?_, ?_, ?_⟩
  · unfold bad
    rw [e0, e1, not_or, not_or, not_or, not_or]
    exact ⟨by omega, by simp, by show ¬ ((4 + r.size : Nat) : Int) < 4; omega, by show ¬ _ < ((4 + r.size : Nat) : Int); omega, by show ¬ _ < ((4 + r.size : Nat) : Int); omega⟩
  · exact ext_mid (wrd (4 + r.size)) r rest
  · have := ext_right (form r) rest
    rwa [form_size] at this
theorem un_ok (L : Nat) (hL : L ≤ 1000) : ∀ (rs out : List ByteArray), (∀ r ∈ rs, r.size ≤ L) → out.length + rs.length ≤ 1000000 → Ev (fun k => variable_Unpack.l0 k (L : Int) out (forms rs)) (out ++ rs, 0) := by
  intro rs
  induction rs with
  | nil =>
    intro out _ _
    refine Ev.step (f := fun _ => some (out ++ [], 0)) (fun k => ?_) (Ev.now _)
    simp only [variable_Unpack.l0]
    rw [if_pos ((nil_iff _).2 rfl), List.append_nil]
  | cons r rs ih =>
    intro out hr ho
    rw [List.length_cons] at ho
    obtain ⟨g, e1, e2⟩ := form_good (L := L) (r := r) (rest := forms rs) (hr r List.mem_cons_self) hL
    refine Ev.step (f := fun k => variable_Unpack.l0 k (L : Int) (out ++ [r]) (forms rs)) (fun k => ?_) (by
      have := ih (out ++ [r]) (fun x hx => hr x (List.mem_cons_of_mem _ hx)) (by rw [List.length_append, List.length_singleton]; omega)
      rwa [List.append_assoc, List.singleton_append] at this)
    simp only [variable_Unpack.l0]
    rw [forms, if_neg (fun h => by have := (nil_iff _).1 h; rw [ByteArray.size_append, form_size] at this; omega), if_pos (by omega), first_good hL g, Option.bind_some, if_pos rfl]
    show variable_Unpack.l0 k (L : Int) (out ++ [ByteArray.extract _ _ _]) (ByteArray.extract _ _ _) = _
    rw [e1, e2]
theorem ref_step (L : Nat) (hL : L ≤ 1000) (data : ByteArray) (hd : data.size ≤ 100000) (out : List ByteArray) (ho : out.length ≤ 1000000) (at_ : Nat) (hat : at_ < data.size) (k : Nat) :
    dasdref11_Unpack.l0 (k + 1) (L : Int) data out (at_ : Int) = if bad L (data.extract at_ data.size) then some ([], 11) else dasdref11_Unpack.l0 k (L : Int) data (out ++ [(data.extract at_ data.size).extract 4 (rdw ((data.extract at_ data.size).extract 0 4)).1.toNat]) ((at_ + (rdw ((data.extract at_ data.size).extract 0 4)).1.toNat : Nat) : Int) := by
  have hs : (data.extract at_ data.size).size = data.size - at_ := by rw [ByteArray.size_extract]; omega
  simp only [dasdref11_Unpack.l0]
  rw [if_pos (by omega), w64 ((at_ : Int) + 4) (by omega) (by omega)]
  by_cases h0 : (at_ : Int) + 4 > (data.size : Int)
  · rw [if_pos h0, if_pos (show bad L _ from Or.inl (by omega))]
  · have e4 : (data.extract at_ data.size).extract 0 4 = data.extract at_ (at_ + 4) := ext_ext data (by omega) (by omega)
    have e4' : data.extract ((at_ : Int)).toNat ((at_ : Int) + 4).toNat = data.extract at_ (at_ + 4) := ext_at data (by omega) (by omega)
    rw [if_neg h0, if_pos (by omega), if_pos (by omega), if_pos (by omega), ref_read, Option.bind_some, e4', ← e4]
    generalize hz : rdw ((data.extract at_ data.size).extract 0 4) = z
    have hzr : 0 ≤ z.1 ∧ z.1 ≤ 65535 := hz ▸ rdw_range _
    by_cases hb : bad L (data.extract at_ data.size)
    · rw [if_pos hb]
      unfold bad at hb
      rw [hz, hs] at hb
      by_cases h1 : z.2 = true
      · rw [if_pos h1]
        by_cases h2 : z.1 < 4
        · rw [if_pos h2]
        · rw [if_neg h2, w64 _ (by omega) (by omega)]
          by_cases h3 : z.1 > 4 + (L : Int)
          · rw [if_pos h3]
          · rw [if_neg h3, w64 _ (by omega) (by omega)]
            rcases hb with hb | hb | hb | hb | hb
            · omega
            · rw [hb] at h1; exact absurd h1 (by simp)
            · omega
            · rw [if_pos (by omega)]
            · omega
      · rw [if_neg h1]
    · rw [if_neg hb]
      unfold bad at hb
      rw [hz, hs, not_or, not_or, not_or, not_or] at hb
      obtain ⟨c0, c1, c2, c3, c4⟩ := hb
      have er : data.extract ((at_ : Int) + 4).toNat ((at_ : Int) + z.1).toNat = (data.extract at_ data.size).extract 4 z.1.toNat := (ext_ext data (by omega) (by omega)).symm
      rw [if_pos (by simpa using c1), if_neg c2, w64 (4 + (L : Int)) (by omega) (by omega), if_neg (by omega), w64 _ (by omega) (by omega), if_neg (by omega), if_pos (by omega), if_pos (by omega), if_pos (by omega), if_pos (by omega), er, show (at_ : Int) + z.1 = ((at_ + z.1.toNat : Nat) : Int) from by omega]
/-- Both programs read a block's forms alike; what is accepted is the forms of the records. -/
theorem un_both (L : Nat) (hL : L ≤ 1000) (data : ByteArray) (hd : data.size ≤ 100000) : ∀ (d : Nat) (at_ : Nat) (out : List ByteArray), data.size - at_ ≤ d → at_ ≤ data.size → out.length + d ≤ 1000000 →
    ∃ res, Ev (fun k => variable_Unpack.l0 k (L : Int) out (data.extract at_ data.size)) res ∧ Ev (fun k => dasdref11_Unpack.l0 k (L : Int) data out (at_ : Int)) res ∧
      (res = ([], 11) ∨ ∃ rs, res = (out ++ rs, 0) ∧ data.extract at_ data.size = forms rs ∧ (∀ r ∈ rs, r.size ≤ L)) := by
  intro d
  induction d with
  | zero =>
    intro at_ out h1 h2 ho
    obtain rfl : at_ = data.size := by omega
    have hz : (data.extract data.size data.size).size = 0 := by rw [ByteArray.size_extract]; omega
    refine ⟨(out, 0), ?_, ?_, Or.inr ⟨[], by rw [List.append_nil], size_zero _ hz, fun r hr => by cases hr⟩⟩
    · refine Ev.step (f := fun _ => some (out, 0)) (fun k => ?_) (Ev.now _)
      simp only [variable_Unpack.l0]
      rw [if_pos ((nil_iff _).2 hz)]
    · refine Ev.step (f := fun _ => some (out, 0)) (fun k => ?_) (Ev.now _)
      simp only [dasdref11_Unpack.l0]
      rw [if_neg (by omega)]
  | succ d ih =>
    intro at_ out h1 h2 ho
    by_cases hz : at_ = data.size
    · exact ih at_ out (by omega) h2 (by omega)
    · have hlt : at_ < data.size := by omega
      have hs : (data.extract at_ data.size).size = data.size - at_ := by rw [ByteArray.size_extract]; omega
      have hne : ¬ (data.extract at_ data.size).toList = ([] : List UInt8) := fun h => by have := (nil_iff _).1 h; omega
      by_cases hb : bad L (data.extract at_ data.size)
      · refine ⟨([], 11), ?_, ?_, Or.inl rfl⟩
        · refine Ev.step (f := fun _ => some ([], 11)) (fun k => ?_) (Ev.now _)
          simp only [variable_Unpack.l0]
          rw [if_neg hne, if_pos (by omega), first_bad hL hb, Option.bind_some, if_neg (by simp)]
        · refine Ev.step (f := fun _ => some ([], 11)) (fun k => ?_) (Ev.now _)
          rw [ref_step L hL data hd out (by omega) at_ hlt k, if_pos hb]
      · obtain ⟨r, rest, n, hv, hn, hle, hr, hrest, hf, hrL⟩ := good_form hb
        have erest : (data.extract at_ data.size).extract n (data.extract at_ data.size).size = data.extract (at_ + n) data.size := ext_ext data rfl (by omega)
        obtain ⟨res, hv1, hv2, hc⟩ := ih (at_ + n) (out ++ [r]) (by omega) (by omega) (by rw [List.length_append, List.length_singleton]; omega)
        refine ⟨res, ?_, ?_, ?_⟩
        · refine Ev.step (fun k => ?_) hv1
          simp only [variable_Unpack.l0]
          rw [if_neg hne, if_pos (by omega), first_good hL hb, Option.bind_some, if_pos rfl]
          show variable_Unpack.l0 k (L : Int) (out ++ [ByteArray.extract _ _ _]) (ByteArray.extract _ _ _) = _
          rw [hv, Int.toNat_natCast, ← hr, erest]
        · refine Ev.step (fun k => ?_) hv2
          rw [ref_step L hL data hd out (by omega) at_ hlt k, if_neg hb, hv, Int.toNat_natCast, ← hr]
        · rcases hc with hc | ⟨rs, hc, hfs, hrs⟩
          · exact Or.inl hc
          · refine Or.inr ⟨r :: rs, by rw [hc, List.append_assoc, List.singleton_append], ?_, ?_⟩
            · rw [forms, ← hfs, ← erest, ← hrest]
              exact hf
            · intro x hx
              rcases List.mem_cons.1 hx with rfl | hx
              · exact hrL
              · exact hrs x hx

end Go.Proofs.Ytkjookpcknhicaa.Plain

/- The plain part of layer 11, Unpack: the program and the reference unpack alike, and what is accepted is the block of its records. -/
import Derived.Test.YtkjookpcknhicaaPlainU
import Derived.Test.YtkjookpcknhicaaPGx7
import Derived.Test.YtkjookpcknhicaaPGx8
import Derived.Test.YtkjookpcknhicaaPGx9
import Derived.Test.YtkjookpcknhicaaPGx11
namespace Go.Proofs.Ytkjookpcknhicaa.Plain
open Go.RowKit Go.Proofs.YtkjookpcknhicaaW.PrintWords Go.Proofs.YtkjookpcknhicaaW.PrintLast Go.Proofs.Ytkjookpcknhicaa.PG
set_option linter.unusedVariables false
set_option linter.unusedSimpArgs false

/-! ### Unpack, whole -/
theorem extract_all (s : ByteArray) : s.extract 0 s.size = s := ByteArray.extract_zero_size
theorem word_eq (data : ByteArray) (hd : data.size ≤ 65535) : ((rdw (data.extract 0 4)).2 = true ∧ (rdw (data.extract 0 4)).1 = (data.size : Int)) ↔ data.extract 0 4 = wrd data.size := by
  constructor
  · rintro ⟨h1, h2⟩
    obtain ⟨n, hn, he, hv⟩ := wrd_of_rdw _ h1
    rw [hv] at h2
    rw [he, show n = data.size from by omega]
  · intro h
    rw [h, rdw_wrd _ hd]
    exact ⟨rfl, rfl⟩
theorem awake_twice {g : Nat → Option Bool} (h : ∀ k, g (k + 1) = (dasdlaw11_awake.f k).bind fun t => some t) : Ev g true := Ev.step h (Ev.bind ev_awake (Ev.now _))
/-- Unpack of the program and of the reference give the same; and what it says of the data. -/
theorem unpack_both (l b : Int) (data : ByteArray) (hd : data.size ≤ 60000) : ∃ res, Ev (fun k => variable_Unpack.f k l b data) res ∧ Ev (fun k => dasdref11_Unpack.f k l b data) res ∧
    ((valid l b = false ∧ res = ([], 1)) ∨ (valid l b = true ∧ res = ([], 11)) ∨ (valid l b = true ∧ ∃ rs, res = (rs, 0) ∧ data = block rs ∧ rs ≠ [] ∧ (∀ r ∈ rs, (r.size : Int) ≤ l) ∧ (data.size : Int) ≤ b)) := by
  cases hv : valid l b with
  | false =>
    refine ⟨([], 1), ?_, ?_, Or.inl ⟨rfl, rfl⟩⟩
    · unfold variable_Unpack.f
      rw [var_valid, hv]
      exact Ev.now _
    · unfold dasdref11_Unpack.f
      rw [ref_valid, hv]
      exact Ev.now _
  | true =>
    obtain ⟨L, B, rfl, rfl, h1, h2, h3, h4⟩ := valid_nat hv
    have hj : Ev (fun k => dasdref11_Unpack.j0 k (L : Int) data true) ([], 11) := by
      refine Ev.step (f := fun _ => some ([], 11)) (fun k => ?_) (Ev.now _)
      simp only [dasdref11_Unpack.j0]
      rw [if_pos trivial]
    have hjf : ∀ res, Ev (fun k => dasdref11_Unpack.l0 k (L : Int) data [] 4) res → Ev (fun k => dasdref11_Unpack.j0 k (L : Int) data false) res := by
      intro res h
      refine Ev.step (fun k => ?_) h
      simp only [dasdref11_Unpack.j0]
      rw [if_neg (by simp)]
    unfold variable_Unpack.f dasdref11_Unpack.f
    rw [var_valid, ref_valid, hv]
    simp only [Option.bind_some, if_true]
    by_cases c1 : (data.size : Int) ≤ 4
    · refine ⟨([], 11), ?_, ?_, Or.inr (Or.inl ⟨trivial, rfl⟩)⟩
      · simp only [if_pos c1]
        exact Ev.now _
      · simp only [if_pos (show (data.size : Int) < 8 by omega)]
        exact hj
    · simp only [if_neg c1]
      by_cases c2 : (data.size : Int) > (B : Int)
      · refine ⟨([], 11), ?_, ?_, Or.inr (Or.inl ⟨trivial, rfl⟩)⟩
        · simp only [if_pos c2]
          exact Ev.now _
        · by_cases c3 : (data.size : Int) < 8
          · simp only [if_pos c3]
            exact hj
          · simp only [if_neg c3, if_pos c2]
            exact hj
      · simp only [if_neg c2]
        rw [var_read]
        simp only [Option.bind_some]
        have hw := ref_word data.size (by omega)
        rw [hw]
        simp only [Option.bind_some]
        simp only [if_pos (show (0 : Int) ≤ 4 by decide), if_pos (show (4 : Int) ≤ (data.size : Int) by omega)]
        by_cases c4 : data.extract 0 4 = wrd data.size
        · obtain ⟨e1, e2⟩ := (word_eq data (by omega)).2 c4
          simp only [if_pos e1, if_pos e2]
          obtain ⟨res, r1, r2, hc⟩ := un_both L h2 data (by omega) data.size 4 [] (by omega) (by omega) (by simp; omega)
          have hdata : data = wrd data.size ++ data.extract 4 data.size := by rw [← c4]; exact (ext_join data 4).symm
          have hs : (data.extract 4 data.size).size = data.size - 4 := by rw [ByteArray.size_extract]; omega
          refine ⟨res, r1, ?_, ?_⟩
          · by_cases c3 : (data.size : Int) < 8
            · simp only [if_pos c3]
              rcases hc with rfl | ⟨rs, _, hfs, _⟩
              · exact hj
              · rw [hfs] at hs
                cases rs with
                | nil => have : (forms []).size = 0 := rfl; omega
                | cons r rs => rw [forms_size_cons] at hs; omega
            · simp only [if_neg c3]
              have e : ((data.extract 0 4).toList != (wrd data.size).toList) = false := by rw [c4]; simp
              rw [e]
              exact hjf res r2
          · rcases hc with rfl | ⟨rs, rfl, hfs, hrs⟩
            · exact Or.inr (Or.inl ⟨trivial, rfl⟩)
            · refine Or.inr (Or.inr ⟨trivial, rs, rfl, ?_, ?_, fun r hr => by have := hrs r hr; omega, by omega⟩)
              · rw [hfs] at hdata hs
                rw [block, show 4 + (forms rs).size = data.size from by omega]
                exact hdata
              · rintro rfl
                rw [hfs] at hs
                have : (forms []).size = 0 := rfl
                omega
        · have e : ((data.extract 0 4).toList != (wrd data.size).toList) = true := bne_iff_ne.2 (fun h => c4 ((toList_inj _ _).1 h))
          refine ⟨([], 11), ?_, ?_, Or.inr (Or.inl ⟨trivial, rfl⟩)⟩
          · by_cases e1 : (rdw (data.extract 0 4)).2 = true
            · have e2 : ¬ (rdw (data.extract 0 4)).1 = (data.size : Int) := fun e2 => c4 ((word_eq data (by omega)).1 ⟨e1, e2⟩)
              simp only [if_pos e1, if_neg e2]
              exact Ev.now _
            · simp only [if_neg e1]
              exact Ev.now _
          · by_cases c3 : (data.size : Int) < 8
            · simp only [if_pos c3]
              exact hj
            · simp only [if_neg c3, e]
              exact hj
/-- Unpack of a block that Pack could have made. -/
theorem unpack_block (L B : Nat) (rs : List ByteArray) (h1 : 1 ≤ L) (h2 : L ≤ 1000) (h3 : L + 8 ≤ B) (h4 : B ≤ 1024) (hne : rs ≠ []) (hr : ∀ r ∈ rs, r.size ≤ L) (hs : 4 + (forms rs).size ≤ B) : Ev (fun k => variable_Unpack.f k (L : Int) (B : Int) (block rs)) (rs, 0) := by
  have hl := forms_length rs
  have hbs := block_size rs
  have hpos : 0 < rs.length := List.length_pos_iff.2 hne
  have e4 : (block rs).extract 0 4 = wrd (block rs).size := by rw [hbs]; exact ext_left4 _ _ rfl
  obtain ⟨e1, e2⟩ := (word_eq (block rs) (by omega)).2 e4
  unfold variable_Unpack.f
  rw [var_valid, show valid (L : Int) (B : Int) = true from decide_eq_true (by omega)]
  simp only [Option.bind_some, if_true]
  rw [var_read]
  simp only [Option.bind_some]
  simp only [if_neg (show ¬ ((block rs).size : Int) ≤ 4 by omega), if_neg (show ¬ ((block rs).size : Int) > (B : Int) by omega), if_pos e1, if_pos e2]
  have e5 : (block rs).extract 4 (block rs).size = forms rs := ext_right4 _ _ rfl
  rw [e5]
  have := un_ok L h2 rs [] hr (by simp; omega)
  exact this

/-! ### the laws on Unpack -/
theorem unpacks_true (l b : Int) (data : ByteArray) : Ev (fun k => dasdlaw11_VariableUnpacks.f k l b data) true := by
  unfold dasdlaw11_VariableUnpacks.f
  refine Ev.bind ev_awake ?_
  simp only [if_true]
  by_cases hs : (data.size : Int) > 1100
  · rw [decide_eq_true hs]
    exact awake_twice (fun k => by simp only [dasdlaw11_VariableUnpacks.j0]; rw [if_pos (by first | rfl | trivial)])
  · rw [decide_eq_false hs]
    obtain ⟨res, r1, r2, hc⟩ := unpack_both l b data (by omega)
    refine Ev.step (fun k => by simp only [dasdlaw11_VariableUnpacks.j0]; rw [if_neg (by simp)]) (Ev.bind r1 (Ev.bind r2 ?_))
    simp only [if_true]
    refine Ev.bind (same_refl _ ?_) (Ev.now _)
    rcases hc with ⟨_, rfl⟩ | ⟨_, rfl⟩ | ⟨_, rs, rfl, hdata, _⟩
    · exact Nat.zero_le _
    · exact Nat.zero_le _
    · have h1 := forms_length rs
      have h2 := block_size rs
      rw [hdata] at hs
      show rs.length ≤ _
      omega
theorem grp_fit (B : Nat) : ∀ (rs cur : List ByteArray), cur ++ rs ≠ [] → 4 + (forms (cur ++ rs)).size ≤ B → grp B cur rs = [cur ++ rs] := by
  intro rs
  induction rs with
  | nil =>
    intro cur hne _
    rw [List.append_nil] at hne ⊢
    rw [grp, if_neg (fun h => hne (List.eq_nil_of_length_eq_zero h))]
  | cons r rs ih =>
    intro cur hne hs
    have e : cur ++ r :: rs = (cur ++ [r]) ++ rs := by simp
    have hs2 := hs
    rw [forms_size_append, forms_size_cons] at hs2
    rw [grp_more (by omega), ih (cur ++ [r]) (by simp) (by rw [← e]; exact hs), ← e]
theorem long_of {L : Nat} {rs : List ByteArray} (h : ∀ r ∈ rs, r.size ≤ L) : long L rs = false := by
  unfold long
  rw [List.any_eq_false]
  intro r hr
  have := h r hr
  simp
  omega
theorem strict_true (l b : Int) (data : ByteArray) : Ev (fun k => dasdlaw11_VariableStrict.f k l b data) true := by
  unfold dasdlaw11_VariableStrict.f
  refine Ev.bind ev_awake ?_
  simp only [if_true]
  by_cases hs : (data.size : Int) > 1100
  · rw [decide_eq_true hs]
    exact awake_twice (fun k => by simp only [dasdlaw11_VariableStrict.j0]; rw [if_pos (by first | rfl | trivial)])
  · rw [decide_eq_false hs]
    obtain ⟨res, r1, r2, hc⟩ := unpack_both l b data (by omega)
    refine Ev.step (fun k => by simp only [dasdlaw11_VariableStrict.j0]; rw [if_neg (by simp)]) (Ev.bind r1 ?_)
    rcases hc with ⟨hv, rfl⟩ | ⟨hv, rfl⟩ | ⟨hv, rs, rfl, hdata, hne, hr, hb⟩
    · rw [var_valid, hv]
      exact Ev.now _
    · rw [var_valid, hv]
      exact Ev.now _
    · obtain ⟨L, B, rfl, rfl, h1, h2, h3, h4⟩ := valid_nat hv
      have hl := forms_length rs
      have hbs := block_size rs
      have hr' : ∀ r ∈ rs, r.size ≤ L := fun r hr2 => by have := hr r hr2; omega
      rw [hdata] at hb
      have hp := var_pack L B rs (by omega) h1 h2 h3 h4
      rw [packed, if_neg (by rw [long_of hr']; simp), grp_fit B rs [] (by simpa using hne) (by rw [List.nil_append]; omega)] at hp
      simp only [if_true]
      refine Ev.bind hp ?_
      simp only [if_true, List.map_cons, List.map_nil, List.nil_append]
      rw [hdata]
      exact Ev.bind (same_refl _ (by simp)) (Ev.now _)

end Go.Proofs.Ytkjookpcknhicaa.Plain

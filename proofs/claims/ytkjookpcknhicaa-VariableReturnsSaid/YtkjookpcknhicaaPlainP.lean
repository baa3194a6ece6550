/- The plain part of layer 11, packing and words: what Pack of the program and of the reference compute is the same, and words are read back. -/
import Derived.Test.YtkjookpcknhicaaPlain
import Derived.Test.YtkjookpcknhicaaPGx7
import Derived.Test.YtkjookpcknhicaaPGx8
import Derived.Test.YtkjookpcknhicaaPGx6
namespace Go.Proofs.Ytkjookpcknhicaa.Plain
open Go.RowKit Go.Proofs.YtkjookpcknhicaaW.PrintWords Go.Proofs.YtkjookpcknhicaaW.PrintLast Go.Proofs.Ytkjookpcknhicaa.PG
set_option linter.unusedVariables false
set_option linter.unusedSimpArgs false

/-! ### packing -/
/-- Records in the groups of their blocks. -/
def grp (B : Nat) : List ByteArray → List ByteArray → List (List ByteArray)
  | cur, [] => if cur.length = 0 then [] else [cur]
  | cur, r :: rs => if cur.length ≠ 0 ∧ 4 + (forms cur).size + (4 + r.size) > B then cur :: grp B [r] rs else grp B (cur ++ [r]) rs
theorem grp_new {B : Nat} {cur : List ByteArray} {r : ByteArray} {rs : List ByteArray} (h0 : ¬ cur.length = 0) (h1 : 4 + (forms cur).size + (4 + r.size) > B) : grp B cur (r :: rs) = cur :: grp B [r] rs := by rw [grp, if_pos ⟨h0, h1⟩]
theorem grp_more {B : Nat} {cur : List ByteArray} {r : ByteArray} {rs : List ByteArray} (h1 : ¬ 4 + (forms cur).size + (4 + r.size) > B) : grp B cur (r :: rs) = grp B (cur ++ [r]) rs := by rw [grp, if_neg (fun h => h1 h.2)]
theorem grp_first {B : Nat} {r : ByteArray} {rs : List ByteArray} : grp B [] (r :: rs) = grp B [r] rs := by rw [grp, if_neg (by simp)]; rfl
theorem forms_len0 (cur : List ByteArray) : (forms cur).toList = ([] : List UInt8) ↔ cur.length = 0 := by
  rw [nil_iff, forms_zero]
  exact ⟨fun h => by rw [h]; rfl, List.eq_nil_of_length_eq_zero⟩
theorem var_pack_loop (L B : Nat) (rs : List ByteArray) (hn : rs.length ≤ 1000000) (hr : ∀ r ∈ rs, r.size ≤ L) (hL : L ≤ 1000) (hLB : L + 8 ≤ B) (hB : B ≤ 1024) : ∀ d i cur out, rs.length - i = d → i ≤ rs.length → 4 + (forms cur).size ≤ B → out.length + d ≤ 1000000 →
    Ev (fun k => variable_Pack.l1 k (B : Int) out (forms cur) rs (rs.length : Int) (i : Int)) (out ++ (grp B cur (rs.drop i)).map block, 0) := by
  intro d
  induction d with
  | zero =>
    intro i cur out hd hi hc ho
    obtain rfl : i = rs.length := by omega
    rw [List.drop_length]
    by_cases h0 : cur.length = 0
    · refine Ev.step (f := fun _ => some (out, 0)) (fun k => ?_) (by rw [grp, if_pos h0, List.map_nil, List.append_nil]; exact Ev.now _)
      simp only [variable_Pack.l1]
      rw [if_neg (by omega), if_pos ((forms_len0 cur).2 h0)]
    · refine Ev.step (f := fun _ => some (out ++ [block cur], 0)) (fun k => ?_) (by rw [grp, if_neg h0, List.map_cons, List.map_nil]; exact Ev.now _)
      simp only [variable_Pack.l1]
      rw [if_neg (by omega), if_neg (fun h => h0 ((forms_len0 cur).1 h)), var_block cur (by omega), Option.bind_some, if_pos (by omega)]
  | succ d ih =>
    intro i cur out hd hi hc ho
    have hlt : i < rs.length := by omega
    have hri : rs[i].size ≤ L := hr _ (List.getElem_mem hlt)
    rw [drop_at rs i hlt]
    by_cases h0 : cur.length = 0
    · obtain rfl := List.eq_nil_of_length_eq_zero h0
      have e : grp B [] (rs[i] :: rs.drop (i + 1)) = grp B [rs[i]] (rs.drop (i + 1)) := by rw [grp, if_neg (by simp)]; rfl
      rw [e]
      refine Ev.step (f := fun k => variable_Pack.l1 k (B : Int) out (forms [rs[i]]) rs (rs.length : Int) ((i + 1 : Nat) : Int)) (fun k => ?_) (ih (i + 1) [rs[i]] out (by omega) (by omega) (by rw [forms_one, form_size]; omega) (by omega))
      simp only [variable_Pack.l1]
      rw [if_pos (by omega), if_pos (by omega), if_pos (by omega), rdOf_at rs i hlt, var_form _ (by omega), Option.bind_some, if_pos ((forms_len0 []).2 rfl),
        if_pos (by rw [form_size]; show 0 + _ ≤ _; omega), wnext i rs.length hlt (by omega), forms_one]
      rw [show forms [] = (⟨#[]⟩ : ByteArray) from rfl, emp_append]
    · by_cases h1 : 4 + (forms cur).size + (4 + rs[i].size) > B
      · rw [grp_new h0 h1, List.map_cons, show out ++ block cur :: (grp B [rs[i]] (rs.drop (i + 1))).map block = (out ++ [block cur]) ++ (grp B [rs[i]] (rs.drop (i + 1))).map block from by simp]
        refine Ev.step (f := fun k => variable_Pack.l1 k (B : Int) (out ++ [block cur]) (forms [rs[i]]) rs (rs.length : Int) ((i + 1 : Nat) : Int)) (fun k => ?_)
          (ih (i + 1) [rs[i]] (out ++ [block cur]) (by omega) (by omega) (by rw [forms_one, form_size]; omega) (by rw [List.length_append]; simp only [List.length_singleton]; omega))
        simp only [variable_Pack.l1]
        rw [if_pos (by omega), if_pos (by omega), if_pos (by omega), rdOf_at rs i hlt, var_form _ (by omega), Option.bind_some, if_neg (fun h => h0 ((forms_len0 cur).1 h)), w64 (4 + ((forms cur).size : Int)) (by omega) (by omega), w64 _ (by rw [form_size]; omega) (by rw [form_size]; omega),
          if_pos (by rw [form_size]; omega), var_block cur (by omega), Option.bind_some, if_pos (by omega), if_pos (by rw [form_size]; omega), wnext i rs.length hlt (by omega), forms_one, emp_append]
      · rw [grp_more h1]
        refine Ev.step (f := fun k => variable_Pack.l1 k (B : Int) out (forms (cur ++ [rs[i]])) rs (rs.length : Int) ((i + 1 : Nat) : Int)) (fun k => ?_)
          (ih (i + 1) (cur ++ [rs[i]]) out (by omega) (by omega) (by rw [forms_size_append, forms_one, form_size]; omega) (by omega))
        simp only [variable_Pack.l1]
        rw [if_pos (by omega), if_pos (by omega), if_pos (by omega), rdOf_at rs i hlt, var_form _ (by omega), Option.bind_some, if_neg (fun h => h0 ((forms_len0 cur).1 h)), w64 (4 + ((forms cur).size : Int)) (by omega) (by omega), w64 _ (by rw [form_size]; omega) (by rw [form_size]; omega),
          if_neg (by rw [form_size]; omega), if_pos (by rw [form_size]; omega), wnext i rs.length hlt (by omega), forms_append, forms_one]
/-- Records that are too long are refused; the others are packed. -/
def long (L : Nat) (rs : List ByteArray) : Bool := rs.any (fun r => decide (L < r.size))
theorem long_yes {L : Nat} {r : ByteArray} (rs : List ByteArray) (h : L < r.size) : long L (r :: rs) = true := by rw [long, List.any_cons, decide_eq_true h, Bool.true_or]
theorem long_no {L : Nat} {r : ByteArray} (rs : List ByteArray) (h : ¬ L < r.size) : long L (r :: rs) = long L rs := by rw [long, List.any_cons, decide_eq_false h, Bool.false_or]; rfl
theorem var_pack_first (L B : Nat) (rs : List ByteArray) (hn : rs.length ≤ 1000000) : ∀ d i, rs.length - i = d → i ≤ rs.length → ∀ res,
    (long L (rs.drop i) = true → res = (([] : List ByteArray), (2 : Int))) → (long L (rs.drop i) = false → Ev (fun k => variable_Pack.l1 k (B : Int) [] (⟨#[]⟩ : ByteArray) rs (rs.length : Int) 0) res) →
    Ev (fun k => variable_Pack.l0 k (L : Int) (B : Int) rs rs (rs.length : Int) (i : Int)) res := by
  intro d
  induction d with
  | zero =>
    intro i hd hi res h1 h2
    obtain rfl : i = rs.length := by omega
    refine Ev.step (fun k => ?_) (h2 (by rw [List.drop_length]; rfl))
    simp only [variable_Pack.l0]
    rw [if_neg (by omega)]
  | succ d ih =>
    intro i hd hi res h1 h2
    have hlt : i < rs.length := by omega
    rw [drop_at rs i hlt] at h1 h2
    by_cases h : L < rs[i].size
    · obtain rfl := h1 (long_yes _ h)
      refine Ev.step (f := fun _ => some (([] : List ByteArray), (2 : Int))) (fun k => ?_) (Ev.now _)
      simp only [variable_Pack.l0]
      rw [if_pos (by omega), if_pos (by omega), if_pos (by omega), rdOf_at rs i hlt, if_pos (by omega)]
    · have e : long L (rs[i] :: rs.drop (i + 1)) = long L (rs.drop (i + 1)) := long_no _ h
      rw [e] at h1 h2
      refine Ev.step (f := fun k => variable_Pack.l0 k (L : Int) (B : Int) rs rs (rs.length : Int) ((i + 1 : Nat) : Int)) (fun k => ?_) (ih (i + 1) (by omega) (by omega) res h1 h2)
      simp only [variable_Pack.l0]
      rw [if_pos (by omega), if_pos (by omega), if_pos (by omega), rdOf_at rs i hlt, if_neg (by omega), wnext i rs.length hlt (by omega)]
theorem long_false {L : Nat} {rs : List ByteArray} (h : long L rs = false) : ∀ r ∈ rs, r.size ≤ L := by
  intro r hr
  have := List.any_eq_false.1 h r hr
  simpa using this
/-- What Pack hands back. -/
def packed (L B : Nat) (rs : List ByteArray) : List ByteArray × Int := if long L rs = true then ([], 2) else ((grp B [] rs).map block, 0)
theorem var_pack (L B : Nat) (rs : List ByteArray) (hn : rs.length ≤ 1000000) (h1 : 1 ≤ L) (hL : L ≤ 1000) (hLB : L + 8 ≤ B) (hB : B ≤ 1024) : Ev (fun k => variable_Pack.f k (L : Int) (B : Int) rs) (packed L B rs) := by
  unfold variable_Pack.f
  rw [var_valid, show valid (L : Int) (B : Int) = true from decide_eq_true (by omega)]
  simp only [Option.bind_some, if_true]
  refine var_pack_first L B rs hn rs.length 0 rfl (Nat.zero_le _) _ (fun h => ?_) (fun h => ?_)
  · rw [List.drop_zero] at h
    rw [packed, if_pos h]
  · rw [List.drop_zero] at h
    rw [packed, if_neg (by rw [h]; simp)]
    have := var_pack_loop L B rs hn (long_false h) hL hLB hB rs.length 0 [] [] rfl (Nat.zero_le _) (by show 4 + 0 ≤ B; omega) (by simpa using hn)
    exact this
theorem var_pack_bad (l b : Int) (rs : List ByteArray) (h : valid l b = false) : Ev (fun k => variable_Pack.f k l b rs) (([] : List ByteArray), (1 : Int)) := by
  unfold variable_Pack.f
  rw [var_valid, h]
  exact Ev.now _
theorem ref_pack_bad (l b : Int) (rs : List ByteArray) (h : valid l b = false) : Ev (fun k => dasdref11_Pack.f k l b rs) (([] : List ByteArray), (1 : Int)) := by
  unfold dasdref11_Pack.f
  rw [ref_valid, h]
  exact Ev.now _
theorem ref_pack_loop (L B : Nat) (rs : List ByteArray) (hn : rs.length ≤ 1000000) (hL : L ≤ 1000) (hLB : L + 8 ≤ B) (hB : B ≤ 1024) : ∀ d i cur out, rs.length - i = d → i ≤ rs.length → 4 + (forms cur).size ≤ B → out.length + d ≤ 1000000 →
    Ev (fun k => dasdref11_Pack.l0 k (L : Int) (B : Int) rs out cur (i : Int)) (if long L (rs.drop i) = true then (([] : List ByteArray), (2 : Int)) else (out ++ (grp B cur (rs.drop i)).map block, 0)) := by
  intro d
  induction d with
  | zero =>
    intro i cur out hd hi hc ho
    obtain rfl : i = rs.length := by omega
    rw [List.drop_length, if_neg (by simp [long])]
    by_cases h0 : cur.length = 0
    · refine Ev.step (f := fun _ => some (out, 0)) (fun k => ?_) (by rw [grp, if_pos h0, List.map_nil, List.append_nil]; exact Ev.now _)
      simp only [dasdref11_Pack.l0]
      rw [if_neg (by omega), if_neg (by omega)]
    · rw [grp, if_neg h0, List.map_cons, List.map_nil]
      refine Ev.step (fun k => ?_) (Ev.bind (ref_block cur (by omega)) (f := fun _ t => some (out ++ [t], (0 : Int))) (Ev.now _))
      simp only [dasdref11_Pack.l0]
      rw [if_neg (by omega), if_pos (by omega)]
      congr 1
      funext t
      simp only [Option.bind_some]
      rw [if_pos (by simp only [List.length_singleton]; omega)]
  | succ d ih =>
    intro i cur out hd hi hc ho
    have hlt : i < rs.length := by omega
    have hcl := forms_length cur
    rw [drop_at rs i hlt]
    by_cases hlong : L < rs[i].size
    · rw [if_pos (long_yes _ hlong)]
      refine Ev.step (f := fun _ => some (([] : List ByteArray), (2 : Int))) (fun k => ?_) (Ev.now _)
      simp only [dasdref11_Pack.l0]
      rw [if_pos (by omega), if_pos (by omega), rdOf_at rs i hlt, if_pos (by omega)]
    · have el : long L (rs[i] :: rs.drop (i + 1)) = long L (rs.drop (i + 1)) := long_no _ hlong
      rw [el]
      have hfs : (forms (cur ++ [rs[i]])).size = (forms cur).size + (4 + rs[i].size) := by rw [forms_size_append, forms_one, form_size]
      refine Ev.step (f := fun k => (dasdref11_Block.f k (cur ++ [rs[i]])).bind fun t => if (t.size : Int) > (B : Int) then ((dasdref11_Block.f k cur).bind fun t2 => dasdref11_Pack.l0 k (L : Int) (B : Int) rs (out ++ [t2]) [rs[i]] ((i + 1 : Nat) : Int)) else dasdref11_Pack.l0 k (L : Int) (B : Int) rs out (cur ++ [rs[i]]) ((i + 1 : Nat) : Int)) (fun k => ?_) (Ev.bind (ref_block (cur ++ [rs[i]]) (by omega)) ?_)
      · simp only [dasdref11_Pack.l0]
        rw [if_pos (by omega), if_pos (by omega), rdOf_at rs i hlt, if_neg (by omega), wnext i rs.length hlt (by omega)]
        simp only [Option.bind_some, List.nil_append]
        rw [if_pos (by simp only [List.length_nil]; omega), if_pos (by simp only [List.length_singleton]; omega)]
        congr 1
        funext t
        congr 1
        congr 1
        funext t2
        rw [if_pos (by simp only [List.length_singleton]; omega)]
      · simp only [block_size, hfs]
        by_cases h0 : cur.length = 0
        · obtain rfl := List.eq_nil_of_length_eq_zero h0
          have e : grp B [] (rs[i] :: rs.drop (i + 1)) = grp B [rs[i]] (rs.drop (i + 1)) := by rw [grp, if_neg (by simp)]; rfl
          have hi1 := ih (i + 1) [rs[i]] out (by omega) (by omega) (by rw [forms_one, form_size]; omega) (by omega)
          have ez : (forms []).size = 0 := rfl
          simp only [if_neg (show ¬ (((4 + ((forms []).size + (4 + rs[i].size)) : Nat) : Int) > (B : Int)) by omega)]
          rw [e]
          exact hi1
        · by_cases h1 : 4 + (forms cur).size + (4 + rs[i].size) > B
          · simp only [if_pos (show (((4 + ((forms cur).size + (4 + rs[i].size)) : Nat) : Int) > (B : Int)) by omega)]
            rw [grp_new h0 h1, List.map_cons, show out ++ block cur :: (grp B [rs[i]] (rs.drop (i + 1))).map block = (out ++ [block cur]) ++ (grp B [rs[i]] (rs.drop (i + 1))).map block from by simp]
            exact Ev.bind (ref_block cur (by omega)) (ih (i + 1) [rs[i]] (out ++ [block cur]) (by omega) (by omega) (by rw [forms_one, form_size]; omega) (by rw [List.length_append]; simp only [List.length_singleton]; omega))
          · simp only [if_neg (show ¬ (((4 + ((forms cur).size + (4 + rs[i].size)) : Nat) : Int) > (B : Int)) by omega)]
            rw [grp_more h1]
            exact ih (i + 1) (cur ++ [rs[i]]) out (by omega) (by omega) (by omega) (by omega)
theorem ref_pack (L B : Nat) (rs : List ByteArray) (hn : rs.length ≤ 1000000) (h1 : 1 ≤ L) (hL : L ≤ 1000) (hLB : L + 8 ≤ B) (hB : B ≤ 1024) : Ev (fun k => dasdref11_Pack.f k (L : Int) (B : Int) rs) (packed L B rs) := by
  unfold dasdref11_Pack.f
  rw [ref_valid, show valid (L : Int) (B : Int) = true from decide_eq_true (by omega)]
  simp only [Option.bind_some, if_true]
  have := ref_pack_loop L B rs hn hL hLB hB rs.length 0 [] [] rfl (Nat.zero_le _) (by show 4 + 0 ≤ B; omega) (by simpa using hn)
  rw [List.drop_zero, List.nil_append] at this
  exact this
theorem grp_length (B : Nat) : ∀ (rs cur : List ByteArray), (grp B cur rs).length ≤ rs.length + 1 := by
  intro rs
  induction rs with
  | nil => intro cur; rw [grp]; split <;> simp
  | cons r rs ih =>
    intro cur
    rw [grp]
    split
    · have := ih [r]; rw [List.length_cons, List.length_cons]; omega
    · have := ih (cur ++ [r]); rw [List.length_cons]; omega
theorem packed_length (L B : Nat) (rs : List ByteArray) : (packed L B rs).1.length ≤ rs.length + 1 := by
  unfold packed
  split
  · exact Nat.zero_le _
  · show ((grp B [] rs).map block).length ≤ _
    rw [List.length_map]
    exact grp_length B rs []

/-! ### the laws on Pack and on words -/
theorem packs_j (l b : Int) (rs : List ByteArray) (hn : rs.length ≤ 1000000) : Ev (fun k => dasdlaw11_VariablePacks.j0 k l b rs false) true := by
  have key : ∀ res : List ByteArray × Int, res.1.length ≤ 1000001 → Ev (fun k => variable_Pack.f k l b rs) res → Ev (fun k => dasdref11_Pack.f k l b rs) res → Ev (fun k => dasdlaw11_VariablePacks.j0 k l b rs false) true := by
    intro res hl h1 h2
    refine Ev.step (fun k => by simp only [dasdlaw11_VariablePacks.j0]; rw [if_neg (by simp)]) (Ev.bind h1 (Ev.bind h2 ?_))
    rw [var_valid, ref_valid]
    simp only [Option.bind_some, beq_self_eq_true, if_true]
    exact Ev.bind (same_refl _ (by omega)) (Ev.now _)
  cases hv : valid l b with
  | false => exact key _ (Nat.zero_le _) (var_pack_bad l b rs hv) (ref_pack_bad l b rs hv)
  | true =>
    obtain ⟨L, B, rfl, rfl, h1, h2, h3, h4⟩ := valid_nat hv
    exact key _ (by have := packed_length L B rs; omega) (var_pack L B rs hn h1 h2 h3 h4) (ref_pack L B rs hn h1 h2 h3 h4)
theorem packs_true (l b : Int) (rs : List ByteArray) (hn : rs.length ≤ 9223372036854775807) : Ev (fun k => dasdlaw11_VariablePacks.f k l b rs) true := by
  unfold dasdlaw11_VariablePacks.f
  refine Ev.bind ev_awake ?_
  simp only [if_true]
  refine Ev.bind (few_tells rs 40 1100 hn) ?_
  cases hf : few rs 40 1100 with
  | false => exact Ev.step (fun k => by simp only [dasdlaw11_VariablePacks.j0]; rw [if_pos (by rfl)]) (Ev.bind ev_awake (Ev.now _))
  | true =>
    obtain ⟨h1, _⟩ := few_true hf
    exact packs_j l b rs (by omega)
theorem words_true (n : Int) (s : ByteArray) : Ev (fun k => dasdlaw11_VariableWords.f k n s) true := by
  have hj1 : Ev (fun k => dasdlaw11_VariableWords.j1 k n false) true := by
    by_cases h : 0 ≤ n ∧ n ≤ 65535
    · obtain ⟨m, rfl⟩ := Int.eq_ofNat_of_zero_le h.1
      refine Ev.step (f := fun _ => some true) (fun k => ?_) (Ev.now _)
      simp only [dasdlaw11_VariableWords.j1]
      rw [if_neg (by simp), var_word m (by omega), Option.bind_some, var_read, rdw_wrd m (by omega), Option.bind_some, if_pos (by omega), if_pos (by rw [decide_eq_true (by omega)]; rfl), if_pos rfl, beq_self_eq_true]
    · have hw := (word_out n (by omega)).1
      have hr : rdw (⟨#[]⟩ : ByteArray) = (0, false) := rfl
      refine Ev.step (f := fun _ => some true) (fun k => ?_) (Ev.now _)
      simp only [dasdlaw11_VariableWords.j1]
      rw [if_neg (by simp), hw, Option.bind_some, var_read, hr, Option.bind_some]
      by_cases h0 : n ≥ 0
      · rw [if_pos h0, if_pos (by rw [decide_eq_false (by omega)]; rfl), if_neg (by simp)]
      · rw [if_neg h0, if_pos (by rfl), if_neg (by simp)]
  have hw : ∃ t, variable_Word.f n = some t ∧ dasdref11_Word.f n = some t := by
    by_cases h : 0 ≤ n ∧ n ≤ 65535
    · obtain ⟨m, rfl⟩ := Int.eq_ofNat_of_zero_le h.1
      exact ⟨_, var_word m (by omega), ref_word m (by omega)⟩
    · exact ⟨_, word_out n (by omega)⟩
  obtain ⟨t, ht1, ht2⟩ := hw
  have hj0 : Ev (fun k => dasdlaw11_VariableWords.j0 k n s false) true := by
    refine Ev.step (f := fun k => dasdlaw11_VariableWords.j1 k n false) (fun k => ?_) hj1
    simp only [dasdlaw11_VariableWords.j0]
    rw [if_neg (by simp), var_read, ref_read, Option.bind_some, Option.bind_some, ht1, ht2, Option.bind_some, Option.bind_some, if_pos rfl, if_pos rfl, if_neg (by simp)]
    by_cases h2 : (rdw s).2 = true
    · obtain ⟨m, hm, he, hv⟩ := wrd_of_rdw s h2
      rw [if_pos h2, hv, var_word m hm, Option.bind_some, ← he]
      simp
    · rw [if_neg h2]
  unfold dasdlaw11_VariableWords.f
  refine Ev.bind ev_awake ?_
  simp only [if_true]
  by_cases hs : (s.size : Int) > 20
  · rw [decide_eq_true hs]
    exact Ev.step (fun k => by simp only [dasdlaw11_VariableWords.j0]; rw [if_pos (by first | rfl | trivial)]) (Ev.bind ev_awake (Ev.now _))
  · rw [decide_eq_false hs]
    exact hj0

end Go.Proofs.Ytkjookpcknhicaa.Plain

/- The plain part of layer 11, blocks of records: unpacking the packed blocks returns the records, adding record by record gives the same blocks, and Add and Room are those of the reference. -/
import Derived.Test.YtkjookpcknhicaaPlainL
import Derived.Test.YtkjookpcknhicaaPGx7
import Derived.Test.YtkjookpcknhicaaPGx8
import Derived.Test.YtkjookpcknhicaaPGx10
import Derived.Test.YtkjookpcknhicaaPGx12
import Derived.Test.YtkjookpcknhicaaPGx13
import Derived.Test.YtkjookpcknhicaaPGx11
namespace Go.Proofs.Ytkjookpcknhicaa.Plain
open Go.RowKit Go.Proofs.YtkjookpcknhicaaW.PrintWords Go.Proofs.YtkjookpcknhicaaW.PrintLast Go.Proofs.Ytkjookpcknhicaa.PG
set_option linter.unusedVariables false
set_option linter.unusedSimpArgs false

/-! ### the groups of the blocks -/
theorem grp_flatten (B : Nat) : ∀ (rs cur : List ByteArray), (grp B cur rs).flatten = cur ++ rs := by
  intro rs
  induction rs with
  | nil =>
    intro cur
    rw [grp]
    by_cases h : cur.length = 0
    · rw [if_pos h, List.eq_nil_of_length_eq_zero h]
      rfl
    · rw [if_neg h]
      simp
  | cons r rs ih =>
    intro cur
    by_cases h : cur.length ≠ 0 ∧ 4 + (forms cur).size + (4 + r.size) > B
    · rw [grp_new h.1 h.2, List.flatten_cons, ih [r], List.singleton_append]
    · rw [grp, if_neg h, ih (cur ++ [r]), List.append_assoc, List.singleton_append]
/-- A chain of groups: none is empty, each fits, and the first record of each would not have fitted into the one before. -/
def Chain (B : Nat) : Int → List (List ByteArray) → Prop
  | _, [] => True
  | bf, g :: gs => (∃ r t, g = r :: t ∧ (bf < 0 ∨ bf + 4 + (r.size : Int) > (B : Int))) ∧ 4 + (forms g).size ≤ B ∧ Chain B ((block g).size : Int) gs
theorem grp_chain (B : Nat) : ∀ (rs cur : List ByteArray) (bf : Int), (∀ r ∈ rs, 8 + r.size ≤ B) → 4 + (forms cur).size ≤ B → (cur = [] → bf < 0) → (∀ r t, cur = r :: t → bf < 0 ∨ bf + 4 + (r.size : Int) > (B : Int)) → Chain B bf (grp B cur rs) := by
  intro rs
  induction rs with
  | nil =>
    intro cur bf _ hc h0 h1
    cases cur with
    | nil => simp [grp, Chain]
    | cons r t => rw [grp, if_neg (by simp)]; exact ⟨⟨r, t, rfl, h1 r t rfl⟩, hc, trivial⟩
  | cons r rs ih =>
    intro cur bf hr hc h0 h1
    have hr1 := hr r List.mem_cons_self
    have hrs : ∀ x ∈ rs, 8 + x.size ≤ B := fun x hx => hr x (List.mem_cons_of_mem _ hx)
    cases cur with
    | nil =>
      rw [grp_first]
      exact ih [r] bf hrs (by rw [forms_one, form_size]; omega) (fun h => by cases h) (fun r' t h => Or.inl (h0 rfl))
    | cons c t =>
      by_cases h : 4 + (forms (c :: t)).size + (4 + r.size) > B
      · rw [grp_new (by simp) h]
        refine ⟨⟨c, t, rfl, h1 c t rfl⟩, hc, ih [r] _ hrs (by rw [forms_one, form_size]; omega) (fun h => by cases h) (fun r' t' e => Or.inr ?_)⟩
        injection e with e1 e2
        subst e1
        have := block_size (c :: t)
        omega
      · rw [grp_more h]
        refine ih (c :: t ++ [r]) bf hrs (by rw [forms_size_append, forms_one, form_size]; omega) (fun h => by cases h) (fun r' t' e => ?_)
        injection e with e1 e2
        subst e1
        exact h1 c t rfl
/-- The records that are not too long. -/
def fair (L : Nat) (rs : List ByteArray) : List ByteArray := rs.filter (fun r => decide (r.size ≤ L))
theorem fair_loop (L : Nat) (rs : List ByteArray) (hn : rs.length ≤ 1000000) : ∀ d i out, rs.length - i = d → i ≤ rs.length → out.length + d ≤ 1000000 → Ev (fun k => dasdlaw11_fair.l0 k (L : Int) out rs (rs.length : Int) (i : Int)) (out ++ fair L (rs.drop i)) := by
  intro d
  induction d with
  | zero =>
    intro i out hd hi ho
    obtain rfl : i = rs.length := by omega
    refine Ev.step (f := fun _ => some out) (fun k => ?_) (by rw [List.drop_length]; unfold fair; rw [List.filter_nil, List.append_nil]; exact Ev.now _)
    simp only [dasdlaw11_fair.l0]
    rw [if_neg (by omega)]
  | succ d ih =>
    intro i out hd hi ho
    have hlt : i < rs.length := by omega
    rw [drop_at rs i hlt]
    by_cases h : rs[i].size ≤ L
    · have e : fair L (rs[i] :: rs.drop (i + 1)) = rs[i] :: fair L (rs.drop (i + 1)) := by unfold fair; rw [List.filter_cons, if_pos (decide_eq_true h)]
      rw [e, show out ++ rs[i] :: fair L (rs.drop (i + 1)) = (out ++ [rs[i]]) ++ fair L (rs.drop (i + 1)) from by rw [List.append_assoc, List.singleton_append]]
      refine Ev.step (fun k => ?_) (ih (i + 1) (out ++ [rs[i]]) (by omega) (by omega) (by rw [List.length_append, List.length_singleton]; omega))
      simp only [dasdlaw11_fair.l0]
      rw [if_pos (by omega), if_pos (by omega), if_pos (by omega), rdOf_at rs i hlt, if_pos (by omega), if_pos (by omega), wnext i rs.length hlt (by omega)]
    · have e : fair L (rs[i] :: rs.drop (i + 1)) = fair L (rs.drop (i + 1)) := by unfold fair; rw [List.filter_cons, if_neg (by simpa using h)]
      rw [e]
      refine Ev.step (fun k => ?_) (ih (i + 1) out (by omega) (by omega) (by omega))
      simp only [dasdlaw11_fair.l0]
      rw [if_pos (by omega), if_pos (by omega), if_pos (by omega), rdOf_at rs i hlt, if_neg (by omega), wnext i rs.length hlt (by omega)]
theorem fair_tells (L : Nat) (rs : List ByteArray) (hn : rs.length ≤ 1000000) : Ev (fun k => dasdlaw11_fair.f k (L : Int) rs) (fair L rs) := by
  have := fair_loop L rs hn rs.length 0 [] rfl (Nat.zero_le _) (by simpa using hn)
  exact this
theorem fair_le {L : Nat} {rs : List ByteArray} : ∀ r ∈ fair L rs, r.size ≤ L := fun r hr => of_decide_eq_true (List.mem_filter.1 hr).2
theorem fair_length (L : Nat) (rs : List ByteArray) : (fair L rs).length ≤ rs.length := List.length_filter_le _ _
theorem rdOf_map (gs : List (List ByteArray)) (i : Nat) (h : i < gs.length) : rdOf ByteArray.empty (gs.map block) (i : Int) = block gs[i] := by
  rw [rdOf_at _ i (by rw [List.length_map]; exact h), List.getElem_map]

/-! ### VariableReturns -/
theorem returns_loop (L B : Nat) (l : List ByteArray) (gs : List (List ByteArray)) (h1 : 1 ≤ L) (h2 : L ≤ 1000) (h3 : L + 8 ≤ B) (h4 : B ≤ 1024) (hl : l.length ≤ 1000000) (hf : gs.flatten = l) (hle : ∀ r ∈ l, r.size ≤ L) (hg : gs.length ≤ 1000000) : ∀ d i bf, gs.length - i = d → i ≤ gs.length → bf ≤ 100000 → -1 ≤ bf → Chain B bf (gs.drop i) →
    Ev (fun k => dasdlaw11_VariableReturns.l0 k (L : Int) (B : Int) l (gs.take i).flatten bf (gs.map block) (gs.length : Int) (i : Int)) true := by
  have hfl : ∀ i, (gs.take i).flatten.length ≤ l.length := fun i => by rw [← hf, ← List.take_append_drop i gs, List.flatten_append, List.take_append_drop i gs, List.length_append]; exact Nat.le_add_right _ _
  intro d
  induction d with
  | zero =>
    intro i bf hd hi hb hb1 hc
    obtain rfl : i = gs.length := by omega
    refine Ev.step (f := fun k => (dasdref10_Same.f k (gs.take gs.length).flatten l).bind fun t => some t) (fun k => ?_) ?_
    · simp only [dasdlaw11_VariableReturns.l0]
      rw [if_neg (by omega)]
    · rw [List.take_length, hf]
      exact Ev.bind (same_refl _ (by omega)) (Ev.now _)
  | succ d ih =>
    intro i bf hd hi hb hb1 hc
    have hlt : i < gs.length := by omega
    rw [List.drop_eq_getElem_cons hlt] at hc
    obtain ⟨⟨r, t, hrt, hbf⟩, hfit, hc'⟩ := hc
    have hmem : ∀ x ∈ gs[i], x.size ≤ L := fun x hx => hle x (by rw [← hf]; exact List.mem_flatten.2 ⟨gs[i], List.getElem_mem hlt, hx⟩)
    have hu := unpack_block L B gs[i] h1 h2 h3 h4 (by rw [hrt]; simp) hmem hfit
    have hbs := block_size gs[i]
    have hnext := ih (i + 1) ((block gs[i]).size : Int) (by omega) (by omega) (by omega) (by omega) hc'
    rw [List.take_succ_eq_append_getElem hlt, List.flatten_append, List.flatten_singleton] at hnext
    have htl := hfl (i + 1)
    rw [List.take_succ_eq_append_getElem hlt, List.flatten_append, List.flatten_singleton, List.length_append] at htl
    have hr0 : rdOf ByteArray.empty gs[i] 0 = r := by rw [hrt]; rfl
    have hpos : 0 < gs[i].length := by rw [hrt]; simp
    refine Ev.step (f := fun k => (variable_Unpack.f k (L : Int) (B : Int) (block gs[i])).bind fun bt251 => (if bt251.2 = 0 then (if ((block gs[i]).size : Int) > (B : Int) then (some false) else (if (bt251.1.length : Int) = 0 then (some false) else (if bf ≥ 0 then (if 0 < (bt251.1.length : Int) then (if (wrap64 ((wrap64 (bf + 4)) + ((rdOf ByteArray.empty bt251.1 0).size : Int))) ≤ (B : Int) then (some false) else (if (gs.take i).flatten.length + bt251.1.length < 8796093022208 then (dasdlaw11_VariableReturns.l0 k (L : Int) (B : Int) l ((gs.take i).flatten ++ bt251.1) ((block gs[i]).size : Int) (gs.map block) (gs.length : Int) ((i + 1 : Nat) : Int)) else (none))) else (none)) else (if (gs.take i).flatten.length + bt251.1.length < 8796093022208 then (dasdlaw11_VariableReturns.l0 k (L : Int) (B : Int) l ((gs.take i).flatten ++ bt251.1) ((block gs[i]).size : Int) (gs.map block) (gs.length : Int) ((i + 1 : Nat) : Int)) else (none))))) else (some false))) (fun k => ?_) (Ev.bind hu ?_)
    · simp only [dasdlaw11_VariableReturns.l0]
      rw [if_pos (by omega), if_pos (by omega), if_pos (by rw [List.length_map]; omega), rdOf_map gs i hlt, wnext i gs.length hlt (by omega)]
    · have hrs : r.size ≤ L := hmem r (by rw [hrt]; simp)
      simp only [if_true, if_neg (show ¬ ((block gs[i]).size : Int) > (B : Int) by omega), if_neg (show ¬ (gs[i].length : Int) = 0 by omega), if_pos (show (gs.take i).flatten.length + gs[i].length < 8796093022208 by omega), hr0]
      by_cases hb0 : bf ≥ 0
      · have hw : ¬ wrap64 (wrap64 (bf + 4) + (r.size : Int)) ≤ (B : Int) := by
          rw [w64 (bf + 4) (by omega) (by omega), w64 _ (by omega) (by omega)]
          omega
        simp only [if_pos hb0, if_pos (show 0 < (gs[i].length : Int) by omega), if_neg hw]
        exact hnext
      · simp only [if_neg hb0]
        exact hnext
theorem returns_true (l b : Int) (rs : List ByteArray) (hn : rs.length ≤ 9223372036854775807) : Ev (fun k => dasdlaw11_VariableReturns.f k l b rs) true := by
  have hj : ∀ k, dasdlaw11_VariableReturns.j0 (k + 1) l b rs true = (dasdlaw11_awake.f k).bind fun t => some t := fun k => by simp only [dasdlaw11_VariableReturns.j0]; rw [if_pos (by first | rfl | trivial)]
  unfold dasdlaw11_VariableReturns.f
  refine Ev.bind ev_awake ?_
  simp only [if_true]
  refine Ev.bind (few_tells rs 40 300 hn) ?_
  cases hf : few rs 40 300 with
  | false => exact awake_twice hj
  | true =>
    obtain ⟨hl, _⟩ := few_true hf
    simp only [if_true]
    rw [var_valid]
    simp only [Option.bind_some]
    cases hv : valid l b with
    | false => exact awake_twice hj
    | true =>
      obtain ⟨L, B, rfl, rfl, h1, h2, h3, h4⟩ := valid_nat hv
      have hfl := fair_length L rs
      refine Ev.step (fun k => by simp only [dasdlaw11_VariableReturns.j0]; rw [if_neg (by simp)]) (Ev.bind (fair_tells L rs (by omega)) ?_)
      have hp := var_pack L B (fair L rs) (by omega) h1 h2 h3 h4
      rw [packed, if_neg (by rw [long_of fair_le]; simp)] at hp
      refine Ev.bind hp ?_
      simp only [if_true, List.length_map]
      have hgl := grp_length B (fair L rs) []
      have hfla := grp_flatten B (fair L rs) []
      exact returns_loop L B (fair L rs) (grp B [] (fair L rs)) h1 h2 h3 h4 (by omega) hfla fair_le (by omega) _ 0 (-1) rfl (Nat.zero_le _) (by omega) (by omega)
        (by rw [List.drop_zero]; exact grp_chain B (fair L rs) [] (-1) (fun r hr => by have := fair_le r hr; omega) (by show 4 + 0 ≤ B; omega) (fun _ => by omega) (fun r t h => by cases h))

/-! ### Room and Add -/
/-- How much room is left. -/
def room (l b : Int) (size : Nat) : Int := mn l (mx (-1) (b - (size : Int) - 4))
theorem room_same (l b : Int) (n : Nat) (h : 1 ≤ l) : mx (-1) (mn l (b - (n : Int) - 4)) = room l b n := by
  unfold room mx mn
  repeat' split
  all_goals omega
theorem room_ge (l b : Int) (n m : Nat) : (room l b n < (m : Int)) ↔ ¬ ((m : Int) ≤ l ∧ (n : Int) + 4 + (m : Int) ≤ b) := by
  unfold room mx mn
  repeat' split
  all_goals omega
theorem var_room_bad (l b : Int) (data : ByteArray) (h : valid l b = false) : Ev (fun k => variable_Room.f k l b data) (-1) := by
  unfold variable_Room.f
  rw [var_valid, h]
  exact Ev.now _
theorem var_room_nil (l b : Int) (data : ByteArray) (h : valid l b = true) (hz : data.toList = ([] : List UInt8)) : Ev (fun k => variable_Room.f k l b data) l := by
  unfold variable_Room.f
  rw [var_valid, h]
  simp only [Option.bind_some, if_true, if_pos hz]
  exact Ev.now _
theorem var_room (l b : Int) (data : ByteArray) (h : valid l b = true) (hz : ¬ data.toList = ([] : List UInt8)) (hd : data.size ≤ 60000) (res : List ByteArray × Int) (hu : Ev (fun k => variable_Unpack.f k l b data) res) :
    Ev (fun k => variable_Room.f k l b data) (if res.2 = 0 then room l b data.size else -1) := by
  obtain ⟨L, B, rfl, rfl, h1, h2, h3, h4⟩ := valid_nat h
  unfold variable_Room.f
  rw [var_valid, h]
  simp only [Option.bind_some, if_true, if_neg hz]
  refine Ev.bind hu ?_
  rw [w64 ((B : Int) - (data.size : Int)) (by omega) (by omega), w64 _ (by omega) (by omega)]
  by_cases c : res.2 = 0
  · simp only [if_pos c]
    exact Ev.now _
  · simp only [if_neg c]
    exact Ev.now _
theorem ref_room_j (l b : Int) (data : ByteArray) : Ev (fun k => dasdref11_Room.j0 k l b data true) (-1) := by
  refine Ev.step (f := fun _ => some (-1)) (fun k => ?_) (Ev.now _)
  simp only [dasdref11_Room.j0]
  rw [if_pos (by first | rfl | trivial)]
theorem ref_room (l b : Int) (data : ByteArray) (hd : data.size ≤ 60000) (res : List ByteArray × Int) (hu : Ev (fun k => dasdref11_Unpack.f k l b data) res) :
    Ev (fun k => dasdref11_Room.f k l b data) (if valid l b = false then -1 else if data.toList = ([] : List UInt8) then l else if res.2 = 0 then room l b data.size else -1) := by
  unfold dasdref11_Room.f
  refine Ev.bind hu ?_
  rw [ref_valid]
  simp only [Option.bind_some]
  cases hv : valid l b with
  | false => exact ref_room_j l b data
  | true =>
    obtain ⟨L, B, rfl, rfl, h1, h2, h3, h4⟩ := valid_nat hv
    simp only [if_true]
    rw [if_neg (by simp)]
    by_cases hz : data.toList = ([] : List UInt8)
    · simp only [if_pos hz]
      refine Ev.step (f := fun _ => some (L : Int)) (fun k => ?_) (Ev.now _)
      simp only [dasdref11_Room.j0]
      rw [if_neg (by simp), if_pos hz]
    · simp only [if_neg hz]
      by_cases c : res.2 = 0
      · rw [if_pos c, show (res.2 != 0) = false from bne_eq_false_iff_eq.2 c]
        refine Ev.step (f := fun _ => some (room (L : Int) (B : Int) data.size)) (fun k => ?_) (Ev.now _)
        simp only [dasdref11_Room.j0]
        rw [if_neg (by simp), if_neg hz, w64 ((B : Int) - (data.size : Int)) (by omega) (by omega), w64 _ (by omega) (by omega), room_same _ _ _ (by omega)]
      · rw [if_neg c, show (res.2 != 0) = true from bne_iff_ne.2 c]
        exact ref_room_j _ _ _
/-- Adding to nothing. -/
theorem var_add_nil (l b : Int) (data rec : ByteArray) (hv : valid l b = true) (hz : data.toList = ([] : List UInt8)) (hr : rec.size ≤ 60000) : Ev (fun k => variable_Add.f k l b data rec) (if l < (rec.size : Int) then ((⟨#[]⟩ : ByteArray), false) else (block [rec], true)) := by
  unfold variable_Add.f
  refine Ev.bind (var_room_nil l b data hv hz) ?_
  by_cases c : l < (rec.size : Int)
  · simp only [if_pos c]
    exact Ev.now _
  · simp only [if_neg c, if_pos hz]
    rw [var_form rec (by omega)]
    simp only [Option.bind_some]
    rw [if_pos (by rw [form_size]; omega), emp_append, show form rec = forms [rec] from (forms_one rec).symm, var_block _ (by rw [forms_one, form_size]; omega)]
    exact Ev.now _
/-- Adding to a block. -/
theorem var_add_block (L B : Nat) (rs : List ByteArray) (rec : ByteArray) (h1 : 1 ≤ L) (h2 : L ≤ 1000) (h3 : L + 8 ≤ B) (h4 : B ≤ 1024) (hs : (block rs).size ≤ 60000) (hr : rec.size ≤ 2000) (hu : Ev (fun k => variable_Unpack.f k (L : Int) (B : Int) (block rs)) (rs, 0)) :
    Ev (fun k => variable_Room.f k (L : Int) (B : Int) (block rs)) (room L B (block rs).size) ∧
    Ev (fun k => variable_Add.f k (L : Int) (B : Int) (block rs) rec) (if room L B (block rs).size < (rec.size : Int) then ((⟨#[]⟩ : ByteArray), false) else (block (rs ++ [rec]), true)) := by
  have hbs := block_size rs
  have hz : ¬ (block rs).toList = ([] : List UInt8) := fun h => by have := (nil_iff _).1 h; omega
  have hroom := var_room L B (block rs) (decide_eq_true (by omega)) hz hs _ hu
  rw [if_pos rfl] at hroom
  refine ⟨hroom, ?_⟩
  unfold variable_Add.f
  refine Ev.bind hroom ?_
  by_cases c : room L B (block rs).size < (rec.size : Int)
  · simp only [if_pos c]
    exact Ev.now _
  · have e5 : (block rs).extract 4 (block rs).size = forms rs := ext_right4 _ _ rfl
    simp only [if_neg c, if_neg hz]
    rw [var_form rec (by omega), if_pos (by omega)]
    simp only [Option.bind_some]
    rw [e5, if_pos (by rw [form_size]; omega), show forms rs ++ form rec = forms (rs ++ [rec]) from by rw [forms_append, forms_one], var_block _ (by rw [forms_size_append, forms_one, form_size]; omega)]
    exact Ev.now _
theorem adds_true (l b : Int) (data rec : ByteArray) : Ev (fun k => dasdlaw11_VariableAdds.f k l b data rec) true := by
  have hj : ∀ k, dasdlaw11_VariableAdds.j0 (k + 1) l b data rec true = (dasdlaw11_awake.f k).bind fun t => some t := fun k => by simp only [dasdlaw11_VariableAdds.j0]; rw [if_pos (by first | rfl | trivial)]
  unfold dasdlaw11_VariableAdds.f
  refine Ev.bind ev_awake ?_
  simp only [if_true]
  by_cases hs : (data.size : Int) > 1100
  · simp only [if_pos hs]
    exact awake_twice hj
  · simp only [if_neg hs]
    by_cases hs2 : (rec.size : Int) > 1100
    · rw [decide_eq_true hs2]
      exact awake_twice hj
    · rw [decide_eq_false hs2]
      have key : ∀ (a : ByteArray × Bool) (r : Int), Ev (fun k => variable_Add.f k l b data rec) a → Ev (fun k => dasdref11_Add.f k l b data rec) a → Ev (fun k => variable_Room.f k l b data) r → Ev (fun k => dasdref11_Room.f k l b data) r → Ev (fun k => dasdlaw11_VariableAdds.j0 k l b data rec false) true := by
        intro a r e1 e2 e3 e4
        refine Ev.step (fun k => by simp only [dasdlaw11_VariableAdds.j0]; rw [if_neg (by simp)]) (Ev.bind e1 (Ev.bind e2 ?_))
        simp only [if_true, beq_self_eq_true]
        refine Ev.bind e3 (Ev.bind e4 ?_)
        simp only [beq_self_eq_true]
        exact Ev.now _
      obtain ⟨res, r1, r2, hc⟩ := unpack_both l b data (by omega)
      have hrr := ref_room l b data (by omega) res r2
      -- what the reference adds
      have hra : ∀ (r : Int), Ev (fun k => dasdref11_Room.f k l b data) r → res.1.length ≤ 100000 → (forms res.1).size ≤ 60000 → Ev (fun k => dasdref11_Add.f k l b data rec) (if r < (rec.size : Int) then ((⟨#[]⟩ : ByteArray), false) else (block (res.1 ++ [rec]), true)) := by
        intro r hr hl hf
        unfold dasdref11_Add.f
        refine Ev.bind hr ?_
        by_cases c : r < (rec.size : Int)
        · simp only [if_pos c]
          exact Ev.now _
        · simp only [if_neg c]
          refine Ev.bind r2 ?_
          simp only [if_pos (show res.1.length < 8796093022208 by omega)]
          exact Ev.bind (ref_block _ (by rw [forms_size_append, forms_one, form_size]; omega)) (Ev.now _)
      have short : ∀ r : Int, r = -1 → Ev (fun k => variable_Room.f k l b data) r → Ev (fun k => variable_Add.f k l b data rec) (if r < (rec.size : Int) then ((⟨#[]⟩ : ByteArray), false) else (block (res.1 ++ [rec]), true)) := by
        intro r hr he
        unfold variable_Add.f
        refine Ev.bind he ?_
        simp only [if_pos (show r < (rec.size : Int) by omega)]
        exact Ev.now _
      rcases hc with ⟨hv, rfl⟩ | ⟨hv, rfl⟩ | ⟨hv, rs, rfl, hdata, hne, hr, hb⟩
      · rw [if_pos hv] at hrr
        have h1 := var_room_bad l b data hv
        exact key _ _ (short _ rfl h1) (hra _ hrr (Nat.zero_le _) (Nat.zero_le _)) h1 hrr
      · rw [if_neg (by rw [hv]; simp)] at hrr
        by_cases hz : data.toList = ([] : List UInt8)
        · rw [if_pos hz] at hrr
          exact key _ _ (var_add_nil l b data rec hv hz (by omega)) (hra _ hrr (Nat.zero_le _) (Nat.zero_le _)) (var_room_nil l b data hv hz) hrr
        · rw [if_neg hz, if_neg (by simp)] at hrr
          have h1 := var_room l b data hv hz (by omega) _ r1
          rw [if_neg (by simp)] at h1
          exact key _ _ (short _ rfl h1) (hra _ hrr (Nat.zero_le _) (Nat.zero_le _)) h1 hrr
      · obtain ⟨L, B, rfl, rfl, h1, h2, h3, h4⟩ := valid_nat hv
        have hl := forms_length rs
        have hbs := block_size rs
        have hz : ¬ data.toList = ([] : List UInt8) := fun h => by have := (nil_iff _).1 h; rw [hdata] at this; omega
        rw [if_neg (by rw [hv]; simp), if_neg hz, if_pos rfl] at hrr
        subst hdata
        obtain ⟨e1, e2⟩ := var_add_block L B rs rec h1 h2 h3 h4 (by omega) (by omega) r1
        exact key _ _ e2 (hra _ hrr (by show rs.length ≤ _; omega) (by show (forms rs).size ≤ _; omega)) e1 hrr

/-! ### VariableBuilds -/
/-- What is under way: nothing, or the block of its records. -/
def under (cur : List ByteArray) : ByteArray := if cur.length = 0 then (⟨#[]⟩ : ByteArray) else block cur
theorem under_nil (cur : List ByteArray) : (under cur).toList = ([] : List UInt8) ↔ cur.length = 0 := by
  unfold under
  by_cases h : cur.length = 0
  · rw [if_pos h]
    exact ⟨fun _ => h, fun _ => (nil_iff _).2 rfl⟩
  · rw [if_neg h, nil_iff]
    have := block_size cur
    exact ⟨fun z => by omega, fun z => absurd z h⟩
theorem builds_loop (L B : Nat) (l : List ByteArray) (h1 : 1 ≤ L) (h2 : L ≤ 1000) (h3 : L + 8 ≤ B) (h4 : B ≤ 1024) (hl : l.length ≤ 1000000) (hle : ∀ r ∈ l, r.size ≤ L) : ∀ d i cur out, l.length - i = d → i ≤ l.length → 4 + (forms cur).size ≤ B → (∀ r ∈ cur, r.size ≤ L) → out.length + d ≤ 1000000 →
    out ++ (grp B cur (l.drop i)).map block = (grp B [] l).map block →
    Ev (fun k => dasdlaw11_VariableBuilds.l0 k (L : Int) (B : Int) l out (under cur) l (l.length : Int) (i : Int)) true := by
  have hp := var_pack L B l hl h1 h2 h3 h4
  rw [packed, if_neg (by rw [long_of hle]; simp)] at hp
  have hgl := grp_length B l []
  have hv : valid (L : Int) (B : Int) = true := decide_eq_true (by omega)
  intro d
  induction d with
  | zero =>
    intro i cur out hd hi hc hcl ho he
    obtain rfl : i = l.length := by omega
    rw [List.drop_length] at he
    have fin : ∀ xs : List ByteArray, xs = (grp B [] l).map block → Ev (fun k => (variable_Pack.f k (L : Int) (B : Int) l).bind fun bt => (if bt.2 = 0 then ((dasdref10_Same.f k xs bt.1).bind fun t => (some t)) else (some false))) true := by
      rintro _ rfl
      refine Ev.bind hp ?_
      simp only [if_true]
      exact Ev.bind (same_refl _ (by rw [List.length_map]; omega)) (Ev.now _)
    by_cases h0 : cur.length = 0
    · rw [grp, if_pos h0, List.map_nil, List.append_nil] at he
      refine Ev.step (fun k => ?_) (fin out he)
      simp only [dasdlaw11_VariableBuilds.l0]
      rw [if_neg (by omega), if_pos ((under_nil cur).2 h0)]
    · rw [grp, if_neg h0, List.map_cons, List.map_nil] at he
      refine Ev.step (fun k => ?_) (fin (out ++ [block cur]) he)
      simp only [dasdlaw11_VariableBuilds.l0]
      rw [if_neg (by omega), if_neg (fun h => h0 ((under_nil cur).1 h)), if_pos (by omega), show under cur = block cur from if_neg h0]
  | succ d ih =>
    intro i cur out hd hi hc hcl ho he
    have hlt : i < l.length := by omega
    have hri : l[i].size ≤ L := hle _ (List.getElem_mem hlt)
    rw [drop_at l i hlt] at he
    -- a step, given what Add and Room tell
    have go : ∀ (nx : ByteArray) (ok : Bool) (rm : Int), Ev (fun k => variable_Add.f k (L : Int) (B : Int) (under cur) l[i]) (nx, ok) → Ev (fun k => variable_Room.f k (L : Int) (B : Int) (under cur)) rm → ok = decide ((l[i].size : Int) ≤ rm) →
        (ok = true → Ev (fun k => dasdlaw11_VariableBuilds.l0 k (L : Int) (B : Int) l out nx l (l.length : Int) ((i + 1 : Nat) : Int)) true) →
        (ok = false → Ev (fun k => dasdlaw11_VariableBuilds.l0 k (L : Int) (B : Int) l (out ++ [under cur]) (block [l[i]]) l (l.length : Int) ((i + 1 : Nat) : Int)) true) →
        Ev (fun k => dasdlaw11_VariableBuilds.l0 k (L : Int) (B : Int) l out (under cur) l (l.length : Int) (i : Int)) true := by
      intro nx ok rm ha hr hok hy hn
      refine Ev.step (f := fun k => (variable_Add.f k (L : Int) (B : Int) (under cur) l[i]).bind fun bt321 => ((variable_Room.f k (L : Int) (B : Int) (under cur)).bind fun t323 => (if (bt321.2 != (decide ((l[i].size : Int) ≤ t323))) = true then (some false) else (if bt321.2 = true then (dasdlaw11_VariableBuilds.l0 k (L : Int) (B : Int) l out bt321.1 l (l.length : Int) ((i + 1 : Nat) : Int)) else (if out.length < 8796093022208 then ((variable_Add.f k (L : Int) (B : Int) (⟨#[]⟩ : ByteArray) l[i]).bind fun bt327 => (if bt327.2 = true then (dasdlaw11_VariableBuilds.l0 k (L : Int) (B : Int) l (out ++ [under cur]) bt327.1 l (l.length : Int) ((i + 1 : Nat) : Int)) else (some false))) else (none)))))) (fun k => ?_) (Ev.bind ha (Ev.bind hr ?_))
      · simp only [dasdlaw11_VariableBuilds.l0]
        rw [if_pos (by omega), if_pos (by omega), if_pos (by omega), rdOf_at l i hlt, wnext i l.length hlt (by omega)]
      · have e : (ok != decide ((l[i].size : Int) ≤ rm)) = false := by rw [← hok]; simp
        simp only [e]
        rw [show (fun n => if false = true then some false else _) = _ from rfl]
        cases ok with
        | true =>
          simp only [if_true, if_neg (show ¬ (false = true) by simp)]
          exact hy rfl
        | false =>
          have ha0 := var_add_nil L B (⟨#[]⟩ : ByteArray) l[i] hv ((nil_iff _).2 rfl) (by omega)
          rw [if_neg (by omega)] at ha0
          simp only [if_neg (show ¬ (false = true) by simp), if_pos (show out.length < 8796093022208 by omega)]
          refine Ev.bind ha0 ?_
          simp only [if_true]
          exact hn rfl
    have uone : under [l[i]] = block [l[i]] := if_neg (by simp)
    by_cases h0 : cur.length = 0
    · obtain rfl := List.eq_nil_of_length_eq_zero h0
      rw [grp_first] at he
      have ha := var_add_nil L B (under []) l[i] hv ((under_nil []).2 rfl) (by omega)
      rw [if_neg (by omega)] at ha
      have hr := var_room_nil L B (under []) hv ((under_nil []).2 rfl)
      refine go _ _ _ ha hr (decide_eq_true (by omega)).symm (fun _ => ?_) (fun h => by cases h)
      rw [← uone]
      exact ih (i + 1) [l[i]] out (by omega) (by omega) (by rw [forms_one, form_size]; omega) (fun r hr => by rw [List.mem_singleton.1 hr]; exact hri) (by omega) he
    · have hne : cur ≠ [] := fun h => h0 (by rw [h]; rfl)
      have hbs := block_size cur
      have eu : under cur = block cur := if_neg h0
      have hu := unpack_block L B cur h1 h2 h3 h4 hne hcl hc
      obtain ⟨hr, ha⟩ := var_add_block L B cur l[i] h1 h2 h3 h4 (by omega) (by omega) hu
      rw [← eu] at hr ha
      have hge := room_ge (L : Int) (B : Int) (block cur).size l[i].size
      rw [← eu] at hge
      by_cases hfit : 4 + (forms cur).size + (4 + l[i].size) > B
      · have hlt2 : room (L : Int) (B : Int) (under cur).size < (l[i].size : Int) := hge.2 (fun h => by have := h.2; rw [eu, hbs] at this; omega)
        rw [if_pos hlt2] at ha
        rw [grp_new h0 hfit, List.map_cons, ← eu] at he
        refine go _ _ _ ha hr (decide_eq_false (by omega)).symm (fun h => by cases h) (fun _ => ?_)
        rw [← uone]
        refine ih (i + 1) [l[i]] (out ++ [under cur]) (by omega) (by omega) (by rw [forms_one, form_size]; omega) (fun r hr => by rw [List.mem_singleton.1 hr]; exact hri) (by rw [List.length_append, List.length_singleton]; omega) ?_
        rw [List.append_assoc, List.singleton_append]
        exact he
      · have hge2 : ¬ room (L : Int) (B : Int) (under cur).size < (l[i].size : Int) := fun h => hge.1 h ⟨by omega, by rw [eu, hbs]; omega⟩
        rw [if_neg hge2] at ha
        rw [grp_more hfit] at he
        refine go _ _ _ ha hr (decide_eq_true (by omega)).symm (fun _ => ?_) (fun h => by cases h)
        have e2 : under (cur ++ [l[i]]) = block (cur ++ [l[i]]) := if_neg (by simp)
        rw [← e2]
        refine ih (i + 1) (cur ++ [l[i]]) out (by omega) (by omega) (by rw [forms_size_append, forms_one, form_size]; omega) (fun r hr => ?_) (by omega) he
        rcases List.mem_append.1 hr with hr | hr
        · exact hcl r hr
        · rw [List.mem_singleton.1 hr]
          exact hri
theorem builds_true (l b : Int) (rs : List ByteArray) (hn : rs.length ≤ 9223372036854775807) : Ev (fun k => dasdlaw11_VariableBuilds.f k l b rs) true := by
  have hj : ∀ k, dasdlaw11_VariableBuilds.j0 (k + 1) l b rs true = (dasdlaw11_awake.f k).bind fun t => some t := fun k => by simp only [dasdlaw11_VariableBuilds.j0]; rw [if_pos (by first | rfl | trivial)]
  unfold dasdlaw11_VariableBuilds.f
  refine Ev.bind ev_awake ?_
  simp only [if_true]
  refine Ev.bind (few_tells rs 40 300 hn) ?_
  cases hf : few rs 40 300 with
  | false => exact awake_twice hj
  | true =>
    obtain ⟨hl, _⟩ := few_true hf
    simp only [if_true]
    rw [var_valid]
    simp only [Option.bind_some]
    cases hv : valid l b with
    | false => exact awake_twice hj
    | true =>
      obtain ⟨L, B, rfl, rfl, h1, h2, h3, h4⟩ := valid_nat hv
      have hfl := fair_length L rs
      refine Ev.step (fun k => by simp only [dasdlaw11_VariableBuilds.j0]; rw [if_neg (by simp)]) (Ev.bind (fair_tells L rs (by omega)) ?_)
      have := builds_loop L B (fair L rs) h1 h2 h3 h4 (by omega) fair_le (fair L rs).length 0 [] [] rfl (Nat.zero_le _) (by show 4 + 0 ≤ B; omega) (fun r h => by cases h) (by simp; omega) (by rw [List.drop_zero, List.nil_append])
      exact this

end Go.Proofs.Ytkjookpcknhicaa.Plain

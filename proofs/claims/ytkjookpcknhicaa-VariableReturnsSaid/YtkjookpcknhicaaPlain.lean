/- The plain part of layer 11: descriptor words, forms of records, blocks, packing and reading back, over numbers and byte strings; no memory and no Go. -/
import Derived.Test.YtkjookpcknhicaaPGx5
namespace Go.Proofs.Ytkjookpcknhicaa.Plain
open Go.RowKit Go.Proofs.YtkjookpcknhicaaW.PrintWords Go.Proofs.YtkjookpcknhicaaW.PrintLast Go.Proofs.Ytkjookpcknhicaa.PG
set_option linter.unusedVariables false
set_option linter.unusedSimpArgs false

/-! ### bytes -/
theorem w64 (n : Int) (h0 : -9223372036854775808 ≤ n) (h1 : n ≤ 9223372036854775807) : wrap64 n = n := by unfold wrap64; omega
theorem nil_iff (s : ByteArray) : s.toList = ([] : List UInt8) ↔ s.size = 0 := by
  rw [ByteArray.toList_eq]
  constructor
  · intro h
    have := congrArg List.length h
    rw [data_length] at this
    simpa using this
  · intro h
    exact List.eq_nil_of_length_eq_zero (by rw [data_length]; exact h)
theorem toList_inj (s t : ByteArray) : s.toList = t.toList ↔ s = t := by
  rw [ByteArray.toList_eq, ByteArray.toList_eq]
  constructor
  · intro h
    exact ByteArray.ext (Array.ext' h)
  · intro h
    rw [h]
theorem emp_size : (⟨#[]⟩ : ByteArray).size = 0 := rfl
theorem emp_append (s : ByteArray) : (⟨#[]⟩ : ByteArray) ++ s = s := ByteArray.empty_append
theorem append_emp (s : ByteArray) : s ++ (⟨#[]⟩ : ByteArray) = s := ByteArray.append_empty
theorem size_zero (s : ByteArray) (h : s.size = 0) : s = (⟨#[]⟩ : ByteArray) := (toList_inj _ _).1 (((nil_iff s).2 h).trans ((nil_iff _).2 rfl).symm)
theorem ext_left (a b : ByteArray) : (a ++ b).extract 0 a.size = a := by
  rw [ByteArray.extract_append]
  simp
theorem ext_left4 (a b : ByteArray) (h : a.size = 4) : (a ++ b).extract 0 4 = a := by
  have := ext_left a b
  rwa [h] at this
theorem ext_right (a b : ByteArray) : (a ++ b).extract a.size (a ++ b).size = b := by
  rw [ByteArray.extract_append]
  have e : a.extract a.size (a ++ b).size = (⟨#[]⟩ : ByteArray) := size_zero _ (by simp [ByteArray.size_extract])
  rw [e, emp_append]
  simp
theorem ext_right4 (a b : ByteArray) (h : a.size = 4) : (a ++ b).extract 4 (a ++ b).size = b := by
  have := ext_right a b
  rwa [h] at this
theorem ext_mid (a b c : ByteArray) : (a ++ b ++ c).extract a.size (a.size + b.size) = b := by
  rw [ByteArray.extract_append, ByteArray.extract_append]
  have e : a.extract a.size (a.size + b.size) = (⟨#[]⟩ : ByteArray) := size_zero _ (by simp [ByteArray.size_extract])
  rw [e, emp_append]
  simp
theorem ext_join (s : ByteArray) (m : Nat) : s.extract 0 m ++ s.extract m s.size = s := by
  rw [ByteArray.extract_append_extract]
  simp

/-! ### words -/
def wrd (n : Nat) : ByteArray := ⟨#[UInt8.ofNat (n / 256), UInt8.ofNat (n % 256), 0, 0]⟩
theorem wrd_size (n : Nat) : (wrd n).size = 4 := rfl
theorem var_word (n : Nat) (h : n ≤ 65535) : variable_Word.f (n : Int) = some (wrd n) := by
  unfold variable_Word.f
  rw [if_neg (by omega), if_neg (by omega)]
  have e1 : ((n : Int) / 256 % 256).toNat = n / 256 := by omega
  have e2 : ((n : Int) % 256).toNat = n % 256 := by omega
  simp [strOfNums, wrd, e1, e2]
theorem ref_word (n : Nat) (h : n ≤ 65535) : dasdref11_Word.f (n : Int) = some (wrd n) := by
  unfold dasdref11_Word.f
  rw [if_neg (by omega), if_neg (by omega)]
  have e0 : Int.tdiv (n : Int) 256 = (n : Int) / 256 := Int.tdiv_eq_ediv_of_nonneg (by omega)
  have e3 : Int.tmod (n : Int) 256 = (n : Int) % 256 := Int.tmod_eq_emod_of_nonneg (by omega)
  rw [e0, e3, w64 _ (by omega) (by omega)]
  have e1 : ((n : Int) / 256 % 256).toNat = n / 256 := by omega
  have e2 : ((n : Int) % 256 % 256).toNat = n % 256 := by omega
  simp only [strOfNums, wrd, List.map_cons, List.map_nil, e1, e2]
  rfl
theorem word_out (n : Int) (h : n < 0 ∨ 65535 < n) : variable_Word.f n = some (⟨#[]⟩ : ByteArray) ∧ dasdref11_Word.f n = some (⟨#[]⟩ : ByteArray) := by
  unfold variable_Word.f dasdref11_Word.f
  by_cases h0 : n < 0
  · simp only [if_pos h0, and_self]
  · have h1 : n > 65535 := by omega
    simp only [if_neg h0, if_pos h1, and_self]
theorem bits_byte (x y : Int) (hx : 0 ≤ x) (hx1 : x ≤ 255) (hy : 0 ≤ y) (hy1 : y ≤ 255) : Go.bits .or .i64 (x * 256) y = 256 * x + y := by
  have := bits_join .i64 32 (by decide) (fun n h0 h1 => by rw [IntKind.wrap_i64]; omega) 8 (x * 256) y (by omega) (by omega) (by omega) (by omega) (by omega) (by omega)
  rw [this]
  omega
/-- What both programs read out of four bytes. -/
def rdw (s : ByteArray) : Int × Bool := if s.size = 4 ∧ bt s 2 = 0 ∧ bt s 3 = 0 then (256 * bt s 0 + bt s 1, true) else (0, false)
theorem var_read (s : ByteArray) : variable_ReadWord.f s = some (rdw s) := by
  unfold variable_ReadWord.f rdw
  have b0 := bt_range s 0
  have b1 := bt_range s 1
  by_cases h : (s.size : Int) = 4
  · rw [if_pos h, if_pos (by omega)]
    by_cases h2 : bt s 2 = 0
    · rw [if_pos h2, if_pos (by omega)]
      by_cases h3 : bt s 3 = 0
      · rw [if_pos h3, if_pos (by omega), if_pos (by omega), if_pos ⟨by omega, h2, h3⟩]
        rw [w64 (bt s 0) (by omega) (by omega), w64 (bt s 0 * 256) (by omega) (by omega), w64 (bt s 1) (by omega) (by omega), bits_byte _ _ (by omega) (by omega) (by omega) (by omega)]
      · rw [if_neg h3, if_neg (fun z => h3 z.2.2)]
    · rw [if_neg h2, if_neg (fun z => h2 z.2.1)]
  · rw [if_neg h, if_neg (fun z => h (by have := z.1; omega))]
theorem ref_read (s : ByteArray) : dasdref11_ReadWord.f s = some (rdw s) := by
  unfold dasdref11_ReadWord.f rdw
  have b0 := bt_range s 0
  have b1 := bt_range s 1
  by_cases h : (s.size : Int) = 4
  · rw [if_pos h, if_pos (by omega)]
    by_cases h2 : bt s 2 = 0
    · rw [if_pos h2, if_pos (by omega)]
      by_cases h3 : bt s 3 = 0
      · rw [if_pos h3, if_pos (by omega), if_pos (by omega), if_pos ⟨by omega, h2, h3⟩]
        rw [w64 (bt s 0) (by omega) (by omega), w64 (256 * bt s 0) (by omega) (by omega), w64 (bt s 1) (by omega) (by omega), w64 _ (by omega) (by omega)]
      · rw [if_neg h3, if_neg (fun z => h3 z.2.2)]
    · rw [if_neg h2, if_neg (fun z => h2 z.2.1)]
  · rw [if_neg h, if_neg (fun z => h (by have := z.1; omega))]
theorem bt_wrd (n : Nat) (h : n ≤ 65535) : bt (wrd n) 0 = ((n / 256 : Nat) : Int) ∧ bt (wrd n) 1 = ((n % 256 : Nat) : Int) ∧ bt (wrd n) 2 = 0 ∧ bt (wrd n) 3 = 0 := by
  refine ⟨?_, ?_, rfl, rfl⟩
  · show ((UInt8.ofNat (n / 256)).toNat : Int) = _
    rw [UInt8.toNat_ofNat_of_lt' (by show n / 256 < 256; omega)]
  · show ((UInt8.ofNat (n % 256)).toNat : Int) = _
    rw [UInt8.toNat_ofNat_of_lt' (by show n % 256 < 256; omega)]
theorem rdw_wrd (n : Nat) (h : n ≤ 65535) : rdw (wrd n) = ((n : Int), true) := by
  obtain ⟨h0, h1, h2, h3⟩ := bt_wrd n h
  unfold rdw
  rw [if_pos ⟨rfl, h2, h3⟩, h0, h1]
  congr 1
  omega
theorem wrd_of_rdw (s : ByteArray) (h : (rdw s).2 = true) : ∃ n : Nat, n ≤ 65535 ∧ s = wrd n ∧ (rdw s).1 = (n : Int) := by
  unfold rdw at h ⊢
  by_cases c : s.size = 4 ∧ bt s 2 = 0 ∧ bt s 3 = 0
  · rw [if_pos c]
    have b0 := bt_range s 0
    have b1 := bt_range s 1
    obtain ⟨c0, c2, c3⟩ := c
    have e0 : (256 * bt s 0 + bt s 1).toNat / 256 = (bt s 0).toNat := by omega
    have e1 : (256 * bt s 0 + bt s 1).toNat % 256 = (bt s 1).toNat := by omega
    refine ⟨(256 * bt s 0 + bt s 1).toNat, by omega, ?_, by show 256 * bt s 0 + bt s 1 = _; omega⟩
    refine ByteArray.ext_getElem (by rw [c0]; rfl) (fun i hi hi' => ?_)
    have g : ∀ (j : Nat) (hj : j < s.size), s[j] = UInt8.ofNat (bt s (j : Int)).toNat := by
      intro j hj
      have := bt_at s (j : Int) (by simpa using hj)
      have q : s[j] = s[((j : Int)).toNat]'(by simpa using hj) := rfl
      rw [← this, q]
      simp
    rw [g i hi]
    have hi4 : i < 4 := by omega
    match i, hi4 with
    | 0, _ => simp only [wrd, e0]; rfl
    | 1, _ => simp only [wrd, e1]; rfl
    | 2, _ => rw [show ((2 : Nat) : Int) = 2 from rfl, c2]; rfl
    | 3, _ => rw [show ((3 : Nat) : Int) = 3 from rfl, c3]; rfl
  · rw [if_neg c] at h
    exact absurd h (by simp)
theorem ev_awake : Ev (fun k => dasdlaw11_awake.f k) true := Ev.of (fun k => dasdlaw11_awake.mono k) (k := 20) (by decide +kernel)

/-! ### forms and blocks -/
def form (r : ByteArray) : ByteArray := wrd (4 + r.size) ++ r
def forms : List ByteArray → ByteArray
  | [] => (⟨#[]⟩ : ByteArray)
  | r :: rs => form r ++ forms rs
def block (rs : List ByteArray) : ByteArray := wrd (4 + (forms rs).size) ++ forms rs
theorem form_size (r : ByteArray) : (form r).size = 4 + r.size := by rw [form, ByteArray.size_append]; rfl
theorem forms_append (a b : List ByteArray) : forms (a ++ b) = forms a ++ forms b := by
  induction a with
  | nil => rw [List.nil_append]; exact (emp_append _).symm
  | cons r a ih => rw [List.cons_append, forms, forms, ih, ByteArray.append_assoc]
theorem forms_one (r : ByteArray) : forms [r] = form r := by rw [forms, forms, append_emp]
theorem forms_size_append (a b : List ByteArray) : (forms (a ++ b)).size = (forms a).size + (forms b).size := by rw [forms_append, ByteArray.size_append]
theorem forms_size_cons (r : ByteArray) (rs : List ByteArray) : (forms (r :: rs)).size = 4 + r.size + (forms rs).size := by rw [forms, ByteArray.size_append, form_size]
theorem forms_length (rs : List ByteArray) : 4 * rs.length ≤ (forms rs).size := by
  induction rs with
  | nil => exact Nat.zero_le _
  | cons r rs ih => rw [forms_size_cons, List.length_cons]; omega
theorem forms_zero (rs : List ByteArray) : (forms rs).size = 0 ↔ rs = [] := by
  constructor
  · intro h
    have := forms_length rs
    exact List.eq_nil_of_length_eq_zero (by omega)
  · rintro rfl
    rfl
theorem block_size (rs : List ByteArray) : (block rs).size = 4 + (forms rs).size := by rw [block, ByteArray.size_append]; rfl
theorem var_form (r : ByteArray) (h : r.size ≤ 65531) : variable_form.f r = some (form r) := by
  unfold variable_form.f
  rw [w64 _ (by omega) (by omega), show (4 + (r.size : Int)) = ((4 + r.size : Nat) : Int) from by omega, var_word _ (by omega), Option.bind_some, if_pos (by rw [wrd_size]; omega)]
  rfl
theorem var_whole (f : ByteArray) (h : f.size ≤ 65531) : variable_whole.f f = some (wrd (4 + f.size) ++ f) := by
  unfold variable_whole.f
  rw [w64 _ (by omega) (by omega), show (4 + (f.size : Int)) = ((4 + f.size : Nat) : Int) from by omega, var_word _ (by omega), Option.bind_some, if_pos (by rw [wrd_size]; omega)]
theorem var_block (rs : List ByteArray) (h : (forms rs).size ≤ 65531) : variable_whole.f (forms rs) = some (block rs) := var_whole _ h
theorem rdOf_at (xs : List ByteArray) (i : Nat) (h : i < xs.length) : rdOf ByteArray.empty xs (i : Int) = xs[i] := by
  unfold rdOf
  rw [Int.toNat_natCast, List.getD_eq_getElem?_getD, List.getElem?_eq_getElem h]
  rfl
theorem drop_at (xs : List ByteArray) (i : Nat) (h : i < xs.length) : xs.drop i = xs[i] :: xs.drop (i + 1) := List.drop_eq_getElem_cons h
theorem wnext (i n : Nat) (h : i < n) (hn : n ≤ 9223372036854775807) : wrap64 ((i : Int) + 1) = ((i + 1 : Nat) : Int) := by rw [w64 _ (by omega) (by omega)]; omega
theorem ref_block_loop (rs : List ByteArray) (hs : (forms rs).size ≤ 65531) : ∀ d i, rs.length - i = d → i ≤ rs.length → Ev (fun k => dasdref11_Block.l0 k rs (forms (rs.take i)) (i : Int)) (block rs) := by
  have hl := forms_length rs
  have hp : ∀ i, (forms (rs.take i)).size + (forms (rs.drop i)).size = (forms rs).size := fun i => by rw [← forms_size_append, List.take_append_drop]
  intro d
  induction d with
  | zero =>
    intro i hd hi
    obtain rfl : i = rs.length := by omega
    refine Ev.step (f := fun _ => some (block rs)) (fun k => ?_) (Ev.now _)
    simp only [dasdref11_Block.l0]
    rw [if_neg (by omega), List.take_length, w64 _ (by omega) (by omega), show (4 + ((forms rs).size : Int)) = ((4 + (forms rs).size : Nat) : Int) from by omega, ref_word _ (by omega), Option.bind_some, if_pos (by rw [wrd_size]; omega)]
    rfl
  | succ d ih =>
    intro i hd hi
    have hlt : i < rs.length := by omega
    have h1 := hp i
    rw [drop_at rs i hlt, forms_size_cons] at h1
    refine Ev.step (f := fun k => dasdref11_Block.l0 k rs (forms (rs.take (i + 1))) ((i + 1 : Nat) : Int)) (fun k => ?_) (ih (i + 1) (by omega) (by omega))
    simp only [dasdref11_Block.l0]
    rw [if_pos (by omega), if_pos (by omega), rdOf_at rs i hlt, w64 _ (by omega) (by omega), show (4 + (rs[i].size : Int)) = ((4 + rs[i].size : Nat) : Int) from by omega, ref_word _ (by omega), Option.bind_some,
      if_pos (by rw [wrd_size]; omega), if_pos (by rw [ByteArray.size_append, wrd_size]; omega), wnext i rs.length hlt (by omega), List.take_succ_eq_append_getElem hlt, forms_append, forms_one, form, ByteArray.append_assoc]
theorem ref_block (rs : List ByteArray) (hs : (forms rs).size ≤ 65531) : Ev (fun k => dasdref11_Block.f k rs) (block rs) :=
  ref_block_loop rs hs rs.length 0 rfl (Nat.zero_le _)

/-! ### Valid -/
def valid (l b : Int) : Bool := decide (1 ≤ l ∧ l ≤ 1000 ∧ l + 8 ≤ b ∧ b ≤ 1024)
theorem var_valid (l b : Int) : variable_Valid.f l b = some (valid l b) := by
  unfold variable_Valid.f valid
  by_cases h1 : l ≥ 1
  · rw [if_pos h1]
    by_cases h2 : l ≤ 1000
    · rw [if_pos h2, w64 _ (by omega) (by omega)]
      by_cases h3 : b ≥ l + 8
      · rw [if_pos h3]
        congr 1
        exact decide_eq_decide.2 ⟨fun h => ⟨h1, h2, h3, h⟩, fun h => h.2.2.2⟩
      · rw [if_neg h3, decide_eq_false (fun h => h3 h.2.2.1)]
    · rw [if_neg h2, decide_eq_false (fun h => h2 h.2.1)]
  · rw [if_neg h1, decide_eq_false (fun h => h1 h.1)]
theorem ref_valid (l b : Int) : dasdref11_Valid.f l b = some (valid l b) := var_valid l b
theorem valid_nat {l b : Int} (h : valid l b = true) : ∃ L B : Nat, l = L ∧ b = B ∧ 1 ≤ L ∧ L ≤ 1000 ∧ L + 8 ≤ B ∧ B ≤ 1024 := by
  unfold valid at h
  have := of_decide_eq_true h
  exact ⟨l.toNat, b.toNat, by omega, by omega, by omega, by omega, by omega, by omega⟩

/-! ### Same, Few -/
theorem same_loop (xs : List ByteArray) (hl : xs.length ≤ 9223372036854775807) : ∀ d i, xs.length - i = d → i ≤ xs.length → Ev (fun k => dasdref10_Same.l0 k xs xs (i : Int)) true := by
  intro d
  induction d with
  | zero =>
    intro i hd hi
    refine Ev.step (f := fun _ => some true) (fun k => ?_) (Ev.now _)
    simp only [dasdref10_Same.l0]
    rw [if_neg (by omega)]
  | succ d ih =>
    intro i hd hi
    refine Ev.step (f := fun k => dasdref10_Same.l0 k xs xs ((i + 1 : Nat) : Int)) (fun k => ?_) (ih (i + 1) (by omega) (by omega))
    simp only [dasdref10_Same.l0]
    simp only [if_true]; rw [if_pos (by omega), if_pos (by omega), wnext i xs.length (by omega) hl, if_pos (by omega)]
theorem same_refl (xs : List ByteArray) (hl : xs.length ≤ 9223372036854775807) : Ev (fun k => dasdref10_Same.f k xs xs) true := by
  unfold dasdref10_Same.f
  simp only [if_true]
  exact same_loop xs hl xs.length 0 rfl (Nat.zero_le _)
def few (xs : List ByteArray) (n m : Nat) : Bool := xs.all (fun s => s.size ≤ m) && decide (xs.length ≤ n)
theorem few_loop (xs : List ByteArray) (n m : Nat) (hl : xs.length ≤ 9223372036854775807) : ∀ d i, xs.length - i = d → i ≤ xs.length →
    Ev (fun k => dasdref10_Few.l0 k xs (n : Int) (m : Int) (i : Int)) ((xs.drop i).all (fun s => s.size ≤ m) && decide (xs.length ≤ n)) := by
  intro d
  induction d with
  | zero =>
    intro i hd hi
    obtain rfl : i = xs.length := by omega
    refine Ev.step (f := fun _ => some (decide ((xs.length : Int) ≤ (n : Int)))) (fun k => ?_) ?_
    · simp only [dasdref10_Few.l0]
      rw [if_neg (by omega)]
    · rw [List.drop_length, List.all_nil, Bool.true_and, show decide ((xs.length : Int) ≤ (n : Int)) = decide (xs.length ≤ n) from decide_eq_decide.2 (by omega)]
      exact Ev.now _
  | succ d ih =>
    intro i hd hi
    have hlt : i < xs.length := by omega
    rw [drop_at xs i hlt, List.all_cons]
    by_cases h : xs[i].size ≤ m
    · rw [decide_eq_true h, Bool.true_and]
      refine Ev.step (f := fun k => dasdref10_Few.l0 k xs (n : Int) (m : Int) ((i + 1 : Nat) : Int)) (fun k => ?_) (ih (i + 1) (by omega) (by omega))
      simp only [dasdref10_Few.l0]
      rw [if_pos (by omega), if_pos (by omega), rdOf_at xs i hlt, if_neg (by omega), wnext i xs.length (by omega) hl]
    · rw [decide_eq_false h, Bool.false_and, Bool.false_and]
      refine Ev.step (f := fun _ => some false) (fun k => ?_) (Ev.now _)
      simp only [dasdref10_Few.l0]
      rw [if_pos (by omega), if_pos (by omega), rdOf_at xs i hlt, if_pos (by omega)]
theorem few_tells (xs : List ByteArray) (n m : Nat) (hl : xs.length ≤ 9223372036854775807) : Ev (fun k => dasdref10_Few.f k xs (n : Int) (m : Int)) (few xs n m) :=
  few_loop xs n m hl xs.length 0 rfl (Nat.zero_le _)
theorem few_true {xs : List ByteArray} {n m : Nat} (h : few xs n m = true) : xs.length ≤ n ∧ ∀ r ∈ xs, r.size ≤ m := by
  unfold few at h
  rw [Bool.and_eq_true, List.all_eq_true] at h
  exact ⟨of_decide_eq_true h.2, fun r hr => of_decide_eq_true (h.1 r hr)⟩

end Go.Proofs.Ytkjookpcknhicaa.Plain
